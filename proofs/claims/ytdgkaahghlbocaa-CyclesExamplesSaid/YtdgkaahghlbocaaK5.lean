/-
  Walks of the functions, printed by a program out of the code and the loops' relations.
-/
import Derived.Test.YtdgkaahghlbocaaWkI
import Derived.Test.YtdgkaahghlbocaaProg
import Derived.KernelRfl
import Derived.Test.YtdgkaahghlbocaaK4
namespace Go.Proofs.Ytdgkaahghlbocaa
open Go.Wk Go.RowKit
set_option linter.unusedVariables false
set_option linter.unusedSimpArgs false
theorem bld26_0_1_2 (a0 : Int) (d1 : Option Addr) (l1 : Nat) (c1 : Nat) (d2 : Option Addr) (l2 : Nat) (c2 : Nat) (w : World) : (Instr.build 26 [(0, (.int .i64 a0)), (1, (.slice d1 l1 c1)), (2, (.slice d2 l2 c2))].toArray).run Try.prog w = .ok (.agg [(.int .i64 a0), (.slice d1 l1 c1), (.slice d2 l2 c2)].toArray) w := by kernel_rfl
theorem bld37_  (w : World) : (Instr.build 37 [].toArray).run Try.prog w = .ok (.agg [.slice none 0 0, .slice none 0 0].toArray) w := by kernel_rfl
theorem bld37_0_1 (d0 : Option Addr) (l0 : Nat) (c0 : Nat) (d1 : Option Addr) (l1 : Nat) (c1 : Nat) (w : World) : (Instr.build 37 [(0, (.slice d0 l0 c0)), (1, (.slice d1 l1 c1))].toArray).run Try.prog w = .ok (.agg [(.slice d0 l0 c0), (.slice d1 l1 c1)].toArray) w := by kernel_rfl
theorem bld43_1_2_3_4 (a1 : Int) (a2 : Int) (a3 : Int) (a4 : Int) (w : World) : (Instr.build 43 [(1, (.int .i64 a1)), (2, (.int .i64 a2)), (3, (.int .i64 a3)), (4, (.int .i64 a4))].toArray).run Try.prog w = .ok (.agg [.int .i64 0, (.int .i64 a1), (.int .i64 a2), (.int .i64 a3), (.int .i64 a4), .int .i64 0].toArray) w := by kernel_rfl
theorem bsl22_2 (a0 : Int) (a1 : Int) (w : World) : (Instr.buildSlice 22 2 [(0, (.int .i64 a0)), (1, (.int .i64 a1))].toArray).run Try.prog w = .ok (.slice (some ⟨w.heap.size, 0, none⟩) 2 2) (w.alloc (.cells [(.int .i64 a0), (.int .i64 a1)].toArray 3)) := by kernel_rfl
theorem bsl24_3 (a0_0 : Int) (a0_1 : Int) (a0_2 : Int) (a0_3 : Int) (a0_4 : Int) (a0_5 : Int) (a1_0 : Int) (a1_1 : Int) (a1_2 : Int) (a1_3 : Int) (a1_4 : Int) (a1_5 : Int) (a2_0 : Int) (a2_1 : Int) (a2_2 : Int) (a2_3 : Int) (a2_4 : Int) (a2_5 : Int) (w : World) : (Instr.buildSlice 24 3 [(0, (.agg #[(.int .i64 a0_0), (.int .i64 a0_1), (.int .i64 a0_2), (.int .i64 a0_3), (.int .i64 a0_4), (.int .i64 a0_5)])), (1, (.agg #[(.int .i64 a1_0), (.int .i64 a1_1), (.int .i64 a1_2), (.int .i64 a1_3), (.int .i64 a1_4), (.int .i64 a1_5)])), (2, (.agg #[(.int .i64 a2_0), (.int .i64 a2_1), (.int .i64 a2_2), (.int .i64 a2_3), (.int .i64 a2_4), (.int .i64 a2_5)]))].toArray).run Try.prog w = .ok (.slice (some ⟨w.heap.size, 0, none⟩) 3 3) (w.alloc (.cells [(.int .i64 a0_0), (.int .i64 a0_1), (.int .i64 a0_2), (.int .i64 a0_3), (.int .i64 a0_4), (.int .i64 a0_5), (.int .i64 a1_0), (.int .i64 a1_1), (.int .i64 a1_2), (.int .i64 a1_3), (.int .i64 a1_4), (.int .i64 a1_5), (.int .i64 a2_0), (.int .i64 a2_1), (.int .i64 a2_2), (.int .i64 a2_3), (.int .i64 a2_4), (.int .i64 a2_5)].toArray 43)) := by kernel_rfl
theorem bsl30_1 (d0_0 : Option Addr) (l0_0 : Nat) (c0_0 : Nat) (d0_1 : Option Addr) (l0_1 : Nat) (c0_1 : Nat) (w : World) : (Instr.buildSlice 30 1 [(0, (.agg #[(.slice d0_0 l0_0 c0_0), (.slice d0_1 l0_1 c0_1)]))].toArray).run Try.prog w = .ok (.slice (some ⟨w.heap.size, 0, none⟩) 1 1) (w.alloc (.cells [(.slice d0_0 l0_0 c0_0), (.slice d0_1 l0_1 c0_1)].toArray 37)) := by kernel_rfl
theorem cl13 : Callable Try.prog 13 := ⟨Try.call13⟩
theorem cl15 : Callable Try.prog 15 := ⟨Try.call15⟩
theorem cl29 : Callable Try.prog 29 := ⟨Try.call29⟩
theorem cl31 : Callable Try.prog 31 := ⟨Try.call31⟩
theorem cl41 : Callable Try.prog 41 := ⟨Try.call41⟩
theorem cl42 : Callable Try.prog 42 := ⟨Try.call42⟩
theorem cl44 : Callable Try.prog 44 := ⟨Try.call44⟩
set_option maxRecDepth 100000 in
theorem info64 : ∃ i, Try.prog.info? 64 = some i ∧ i.zero = some (.agg #[.int .i64 0, .int .i64 0, .int .i64 0]) ∧ i.size = 3 ∧ i.bytes = 24 := ⟨Try.t64, Try.type64, rfl, rfl, rfl⟩
set_option maxRecDepth 100000 in
theorem infoz37 : ∃ i, Try.prog.info? 37 = some i ∧ i.zero = some (.agg #[.slice none 0 0, .slice none 0 0]) ∧ i.size = 2 ∧ i.bytes = 48 ∧ (Value.cells (.agg #[.slice none 0 0, .slice none 0 0])).size = 2 := ⟨Try.t37, Try.type37, rfl, rfl, rfl, rfl⟩
theorem sl30 : SliceOf Try.prog 30 37 2 := ⟨Try.underlying30, Try.sizeOf37⟩
theorem sz37 : SzOf Try.prog 37 2 := Try.sizeOf37
theorem zer37 : ZeroOf Try.prog 37 (.agg [.slice none 0 0, .slice none 0 0].toArray) := Try.zeroValue37

structure Cyc where
  a : Option Addr
  c : Nat
  arcs : List Int
  b : Option Addr
  d : Nat
  signs : List Int
  deriving Inhabited
def encCy (r : Cyc) : List Value := [.slice r.a r.arcs.length r.c, .slice r.b r.signs.length r.d]
structure CRows (z hi : Nat) (w : World) (ao : Option Addr) (l : List Cyc) : Prop where
  row : ∀ r ∈ l, ∃ l1 h1 l2 h2, Ints l1 h1 w r.a r.arcs ∧ Ints l2 h2 w r.b r.signs ∧ z ≤ l1 ∧ h1 ≤ hi ∧ (h1 ≤ blk ao ∨ hi1 ao ≤ l1) ∧ z ≤ l2 ∧ h2 ≤ hi ∧ (h2 ≤ blk ao ∨ hi1 ao ≤ l2)
theorem CRows.out {z hi a c : Nat} {w w' : World} {ao : Option Addr} {l : List Cyc} (h : CRows z hi w ao l) (ho : Out a c w w') (hs : hi ≤ a ∨ c ≤ z ∨ c ≤ a) : CRows z hi w' ao l :=
  ⟨fun r hr => by obtain ⟨l1, h1, l2, h2, a1, a2, a3, a4, a5, a6, a7, a8⟩ := h.row r hr; exact ⟨l1, h1, l2, h2, a1.out ho (by omega), a2.out ho (by omega), a3, a4, a5, a6, a7, a8⟩⟩
theorem CRows.ext {z hi : Nat} {w w' : World} {ao : Option Addr} {l : List Cyc} (h : CRows z hi w ao l) (ho : Ext w w') : CRows z hi w' ao l := h.out ho (.inr (.inr (Nat.le_refl _)))
theorem CRows.wide {z hi hi' : Nat} {w : World} {ao : Option Addr} {l : List Cyc} (h : CRows z hi w ao l) (hh : hi ≤ hi') : CRows z hi' w ao l :=
  ⟨fun r hr => by obtain ⟨l1, h1, l2, h2, a1, a2, a3, a4, a5, a6, a7, a8⟩ := h.row r hr; exact ⟨l1, h1, l2, h2, a1, a2, a3, by omega, a5, a6, by omega, a8⟩⟩
theorem CRows.app {z hi zz : Nat} {w w' : World} {ao a' : Option Addr} {l : List Cyc} {r : Cyc} {l1 h1 l2 h2 : Nat} (h : CRows z hi w ao l) (n1 : Ints l1 h1 w r.a r.arcs) (n2 : Ints l2 h2 w r.b r.signs) (b1 : z ≤ l1) (b2 : h1 ≤ hi) (b3 : hi1 ao ≤ l1) (b4 : z ≤ l2) (b5 : h2 ≤ hi) (b6 : hi1 ao ≤ l2) (ho : Out (blk ao) (hi1 ao) w w') (hz : hi ≤ zz)
    (hat : (blk a' = blk ao ∧ hi1 a' = hi1 ao) ∨ (blk a' = zz ∧ hi1 a' = zz + 1)) : CRows z hi w' a' (l ++ [r]) := by
  refine ⟨fun q hq => ?_⟩
  rcases List.mem_append.1 hq with hq | hq
  · obtain ⟨l1, h1, l2, h2, a1, a2, a3, a4, a5, a6, a7, a8⟩ := h.row q hq
    exact ⟨l1, h1, l2, h2, a1.out ho (by omega), a2.out ho (by omega), a3, a4, by omega, a6, a7, by omega⟩
  · rw [List.mem_singleton.1 hq]
    exact ⟨l1, h1, l2, h2, n1.out ho (by omega), n2.out ho (by omega), b1, b2, by omega, b4, b5, by omega⟩
structure CyIn (lo hi : Nat) (w : World) (ad : Option Addr) (l : List Cyc) : Prop where
  tb : Sl encCy 2 lo hi w ad l
  row : ∀ r ∈ l, Ints lo hi w r.a r.arcs ∧ Ints lo hi w r.b r.signs
theorem CyIn.out {lo hi a c : Nat} {w w' : World} {ad : Option Addr} {l : List Cyc} (h : CyIn lo hi w ad l) (ho : Out a c w w') (hs : hi ≤ a ∨ c ≤ lo ∨ c ≤ a) : CyIn lo hi w' ad l := ⟨h.tb.out ho hs, fun r hr => ⟨(h.row r hr).1.out ho hs, (h.row r hr).2.out ho hs⟩⟩
theorem CyIn.ext {lo hi : Nat} {w w' : World} {ad : Option Addr} {l : List Cyc} (h : CyIn lo hi w ad l) (ho : Ext w w') : CyIn lo hi w' ad l := h.out ho (.inr (.inr (Nat.le_refl _)))
theorem con_symK : ∀ (l : List Ac) (K : Int → Int → Bool), (∀ x y : Int, K x y = K y x) → ∀ x y : Int, (l.foldl (fun K a => joinK K a.fr a.tt) K) x y = (l.foldl (fun K a => joinK K a.fr a.tt) K) y x
  | [], K, hK, x, y => hK x y
  | a :: l, K, hK, x, y => con_symK l (joinK K a.fr a.tt) (fun x y => by
      unfold joinK
      rw [hK x y, Bool.or_assoc, Bool.or_assoc, Bool.or_comm (K x a.fr && K y a.tt), Bool.and_comm (K x a.tt), Bool.and_comm (K x a.fr)]) x y
theorem con_sym (l : List Ac) (x y : Int) : conB l x y = conB l y x := con_symK l _ (fun x y => by congr 1; exact propext ⟨Eq.symm, Eq.symm⟩) x y

set_option maxHeartbeats 4000000 in
set_option maxRecDepth 100000 in
theorem ref11_Fundamental_ok (N : Net) (A : NetA) (lo hi : Nat) (tree : List Int) (at_ : Option Addr) (ct lt ht : Nat) (w : World) (hN : NetIn lo hi w N A) (hT : Ints lt ht w at_ tree) (htn : (tree.length : Int) ≤ 9223372036854775807)  : Cal Try.prog 15 [netV N A, .slice at_ tree.length ct] w (fun v w' => ∃ ad c l e, v = .tuple #[.slice ad l.length c, .int .i64 e] ∧ CyIn w.heap.size w'.heap.size w' ad l ∧ (∀ r ∈ l, CyOk N r.arcs r.signs ∧ r.arcs.length ≤ r.c) ∧ ((l.length : Nat) : Int) ≤ 512 ∧ Ext w w') := by
 replace hN := hN.full
 replace hT := Ints.full hT
 have hE : Out 0 0 w w := Out.refl _ _ w
 refine enter Try.func15 rfl Try.ntmps15 rfl ?_
 refine wp_seq ?_
 refine rg ?_
 refine sd (d_boxA rfl ?_)
 intro b2 w1 hbb2 hs3 ho2 hb2
 have hz4 := ho2.size
 replace hN := hN.ext ho2
 replace hT := hT.ext ho2
 replace hE := hE.step ho2 (.inl (Nat.le_refl _))
 refine st (asS rfl) ?_
 refine st (asI rfl) ?_
 refine rg_end ?_
 refine n_then ?_
 refine wp_seq ?_
 refine wp_seq ?_
 refine rg ?_
 refine st (y_lbN hb2 agg26 rfl) ?_
 refine st (mvS rfl) ?_
 refine sc cl29 (ref11_Forest_ok N A _ _ tree _ _ _ _ _ hN hT htn) rfl ?_
 rintro v9 w5 ⟨b, rfl, hb, ho6⟩
 have hz10 := ho6.size
 replace hN := hN.ext ho6
 replace hT := hT.ext ho6
 replace hE := hE.step ho6 (.inl (Nat.le_refl _))
 replace hb2 := hb2.ext ho6
 refine st (y_not rfl) ?_
 refine rg_end ?_
 refine n_then ?_
 refine cnd rfl (fun hc0 => ?_) (fun hc0 => ?_)
 ·
  try simp only [nm] at hc0
  refine wp_seq ?_
  refine rg ?_
  refine st (asS rfl) ?_
  refine st (asI rfl) ?_
  refine rg_end ?_
  refine n_then ?_
  refine wp_ret ?_
  refine r_then (ret2 (v := (.slice _ _ _)) (v' := (.int .i64 _)) Try.results15 rfl rfl ?_)
  exact ⟨none, 0, [], 1, rfl, ⟨nilS0, fun r hr => by cases hr⟩, (fun r hr => by cases hr), by simp, hE⟩
 ·
  try simp only [nm] at hc0
  have hfo := hb.1 hc0
  have hok := hfo.ok
  have hac := hok.ac
  have htm := hfo.mem
  refine wp_skip ?_
  refine n_then ?_
  refine wp_seq ?_
  refine rg ?_
  refine st (asS rfl) ?_
  refine rg_end ?_
  refine n_then ?_
  refine wp_seq ?_
  refine wp_seq ?_
  refine rg ?_
  refine st (asI rfl) ?_
  refine rg_end ?_
  refine n_then ?_
  refine wp_block ?_
  obtain ⟨z1, hz1⟩ : ∃ z, z = w5.heap.size := ⟨_, rfl⟩
  refine lp (γ := Nat × List Cyc × Option Addr × Nat) [6, 7, 8, 9, 10, 15, 16, 17, 18, 19, 20, 21, 22, 23, 24, 25, 26, 27, 28, 29, 30, 31, 32, 33, 34, 35, 36, 37, 38, 39, 40, 41, 42, 43, 44, 45, 46, 47, 48, 49, 50, 51, 52, 53, 54] (fun ⟨k, l, ao, co⟩ => [(7, .int .i64 (k : Int)), (6, .slice ao l.length co)]) (fun ⟨k, l, ao, co⟩ w_ => Ext w5 w_ ∧ (k : Int) ≤ N.acts.length ∧ ((l.length : Nat) : Int) ≤ k ∧ (∀ r ∈ l, CyOk N r.arcs r.signs ∧ r.arcs.length ≤ r.c) ∧ Ow 37 encCy 2 z1 w_.heap.size w_ ao co l ∧ CRows z1 w_.heap.size w_ ao l) (fun ⟨k, l, ao, co⟩ => N.acts.length - k) (0, [], none, 0) ⟨rfl, rfl, trivial⟩ ⟨Out.refl _ _ _, by simp, by simp, (fun r hr => by cases hr), Ow.nil (fun _ => rfl), ⟨fun r hr => by cases hr⟩⟩ ?_
  rintro ⟨k, l, ao, co⟩ hav_ w11 ⟨ho12, hk, hlk, hall, hO, hCR⟩
  have hlp0 := ho12
  have hz13 := ho12.size
  replace hN := hN.ext ho12
  replace hT := hT.ext ho12
  replace hE := hE.step ho12 (.inl (Nat.le_refl _))
  replace hb2 := hb2.ext ho12
  refine wp_seq ?_
  refine wp_seq ?_
  refine rg ?_
  refine st (mvI rfl) ?_
  refine st (y_fld fld26_2 rfl) ?_
  refine st (y_lb hb2 na24 rfl rfl) ?_
  refine st (y_len Try.underlying24 rfl) ?_
  refine st (y_lss rfl rfl) ?_
  refine rg_end ?_
  refine n_then ?_
  refine cnd rfl (fun hc1 => ?_) (fun hc1 => ?_)
  ·
   try simp only [nm] at hc1
   have ha := hok.acs _ (el_mem (l := N.acts) (i := (k : Int)) (by omega) hc1)
   have hcon : conB (tree.map (el N.acts)) (el N.acts (k : Int)).tt (el N.acts (k : Int)).fr = true := by rw [con_sym]; exact hfo.span k (by omega)
   refine wp_skip ?_
   refine n_then ?_
   refine wp_seq ?_
   refine wp_block ?_
   refine wp_seq ?_
   refine wp_seq ?_
   refine rg ?_
   refine st (mvS rfl) ?_
   refine st (mvI rfl) ?_
   refine sc cl41 (ref11_has_ok tree _ _ _ _ (k : Int) _ _ rfl hT htn) rfl ?_
   rintro v18 w14 ⟨rfl, ho15⟩
   have hz19 := ho15.size
   replace hN := hN.ext ho15
   replace hT := hT.ext ho15
   replace hE := hE.step ho15 (.inl (Nat.le_refl _))
   replace hb2 := hb2.ext ho15
   replace hO := hO.ext ho15
   replace hCR := hCR.ext ho15
   replace hlp0 := hlp0.step ho15 (.inl (Nat.le_refl _))
   refine rg_end ?_
   refine n_then ?_
   refine cnd rfl (fun hc2 => ?_) (fun hc2 => ?_)
   ·
    try simp only [nm] at hc2
    have hall1 := hall
    have hCR1 := hCR
    refine wp_exit ?_
    refine e_then (e_blk (?_))
    refine n_then ?_
    refine rg ?_
    refine st (mvI rfl) ?_
    refine st (y_add rfl rfl (by omega)) ?_
    refine st (asI rfl) ?_
    refine rg_end ?_
    exact n_then ⟨(k + 1, _, _, _), _, rfl, same_lk rfl (same_h0), ⟨rfl, rfl, trivial⟩, ⟨hlp0, by omega, by first | omega | (simp; omega), hall1, hO.wide (by omega), hCR1.wide (by omega)⟩, by first | omega | (dsimp only; omega)⟩
   ·
    try simp only [nm] at hc2
    refine wp_skip ?_
    refine n_then ?_
    refine wp_seq ?_
    refine rgD 21 (fun w_ => Ext w14 w_) (fun i => Nat.beq i 14) mixed (by kernel_rfl) ?_
    intro w20 ho21 hs22
    refine ⟨ho21, ?_⟩
    have hx23 := ho21
    refine tn rfl (fun _ hG => y_lbN (hb2.ext hG) agg26 rfl) ?_
    refine tn rfl (fun _ hG => mvS rfl) ?_
    refine tn rfl (fun _ hG => y_fld fld26_2 rfl) ?_
    refine tn rfl (fun _ hG => y_lb (hb2.ext hG) na24 rfl rfl) ?_
    refine tn rfl (fun _ hG => mvI rfl) ?_
    refine tn rfl (fun _ hG => y_ix (hN.a.ext hG) sl24 rfl (rfl) rfl (by omega) (by omega)) ?_
    refine tn rfl (fun _ hG => y_fld fld43_2 rfl) ?_
    refine tn rfl (fun _ hG => y_lf (hN.a.ext hG) na3 rfl (by omega) (by omega) rfl) ?_
    refine tn rfl (fun _ hG => y_fld fld26_2 rfl) ?_
    refine tn rfl (fun _ hG => y_lb (hb2.ext hG) na24 rfl rfl) ?_
    refine tn rfl (fun _ hG => mvI rfl) ?_
    refine tn rfl (fun _ hG => y_ix (hN.a.ext hG) sl24 rfl (rfl) rfl (by omega) (by omega)) ?_
    refine tn rfl (fun _ hG => y_fld fld43_1 rfl) ?_
    refine tn rfl (fun _ hG => y_lf (hN.a.ext hG) na3 rfl (by omega) (by omega) rfl) ?_
    refine tc rfl cl42 (ref11_path_ok N A _ _ tree _ _ _ _ (el N.acts (k : Int)).tt (el N.acts (k : Int)).fr _ (hN.ext hx23) (hT.ext hx23) htn hok htm ha.t0 ha.t1 ha.f0 ha.f1 hcon) rfl ?_
    rintro v28 w24 ⟨aa, ca, ag, cg, arcs, signs, xs, rk, rfl, hAr, hGr, hpa, hal, ho25⟩
    have hcy := hpa.cycle hok (by omega) hc2 htm
    have hsl := hpa.slen
    have hx29 := hx23.step ho25 (.inl (Nat.le_refl _))
    have hz30 := ho25.size
    refine ⟨hx29, ?_⟩
    refine tn rfl (fun _ hG => mvT rfl) ?_
    refine tn rfl (fun _ hG => y_ext rfl rfl) ?_
    refine tn rfl (fun _ hG => y_ext rfl rfl) ?_
    refine tn rfl (fun _ hG => y_ext rfl rfl) ?_
    refine tn rfl (fun _ hG => asS rfl) ?_
    refine tn rfl (fun _ hG => asS rfl) ?_
    refine t_end ?_
    have hz31 := hx29.size
    replace hN := hN.ext hx29
    replace hT := hT.ext hx29
    replace hE := hE.step hx29 (.inl (Nat.le_refl _))
    replace hb2 := hb2.ext hx29
    replace hO := hO.ext hx29
    replace hCR := hCR.ext hx29
    replace hlp0 := hlp0.step hx29 (.inl (Nat.le_refl _))
    refine st (asB rfl) ?_
    refine rg_end ?_
    refine n_then ?_
    refine rg ?_
    refine st (mvS rfl) ?_
    refine st (mvI rfl) ?_
    refine sd (d_bsO (lo := w24.heap.size) (enc := encI) (l := [_]) (sz := 1) (fun _ => rfl) (bsl22_1 _ _) rfl rfl (by unfold maxLen; omega) (by omega) ?_)
    intro b1 w32 hbb1 hs34 ho33 hna
    have hz35 := ho33.size
    replace hN := hN.ext ho33
    replace hT := hT.ext ho33
    replace hE := hE.step ho33 (.inl (Nat.le_refl _))
    replace hb2 := hb2.ext ho33
    replace hO := hO.ext ho33
    replace hCR := hCR.ext ho33
    replace hlp0 := hlp0.step ho33 (.inl (Nat.le_refl _))
    replace hAr := hAr.ext ho33
    replace hGr := hGr.ext ho33
    refine st (mvS rfl) ?_
    have hrhna := hna.rng
    refine sd (d_appN (xs := arcs) hna sl22 infoz3 (by decide) rfl rfl rfl (rfl) (hAr) (fun _ => rfl) (by simp; unfold maxLen; omega) (by simp; omega) (by omega) (by omega) ?_)
    intro an cn w36 ho37 hna'
    have hs38 := ho37.size
    clear hna; have hna := hna'; clear hna'
    have hz41 := ho37.size
    replace hN := hN.out ho37 (by first | omega | (simp only [blk_some, hi1_some] at *; omega))
    replace hT := hT.out ho37 (by first | omega | (simp only [blk_some, hi1_some] at *; omega))
    replace hE := hE.step ho37 (by first | omega | (simp only [blk_some, hi1_some] at *; omega))
    replace hb2 := hb2.out ho37 (by first | omega | (simp only [blk_some, hi1_some] at *; omega))
    have hrnhO := hO.rng
    replace hO := hO.out ho37 (by first | omega | (simp only [blk_some, hi1_some] at *; omega))
    replace hCR := hCR.out ho37 (by first | omega | (simp only [blk_some, hi1_some] at *; omega))
    replace hlp0 := hlp0.step ho37 (by first | omega | (simp only [blk_some, hi1_some] at *; omega))
    replace hAr := hAr.out ho37 (by first | omega | (simp only [blk_some, hi1_some] at *; omega))
    replace hGr := hGr.out ho37 (by first | omega | (simp only [blk_some, hi1_some] at *; omega))
    refine sd (d_bsO (lo := w36.heap.size) (enc := encI) (l := [_]) (sz := 1) (fun _ => rfl) (bsl22_1 _ _) rfl rfl (by unfold maxLen; omega) (by omega) ?_)
    intro b5 w42 hbb5 hs44 ho43 hnb
    have hz45 := ho43.size
    replace hN := hN.ext ho43
    replace hT := hT.ext ho43
    replace hE := hE.step ho43 (.inl (Nat.le_refl _))
    replace hb2 := hb2.ext ho43
    replace hO := hO.ext ho43
    replace hCR := hCR.ext ho43
    replace hlp0 := hlp0.step ho43 (.inl (Nat.le_refl _))
    replace hAr := hAr.ext ho43
    replace hGr := hGr.ext ho43
    replace hna := hna.ext ho43
    refine st (mvS rfl) ?_
    have hrhnb := hnb.rng
    refine sd (d_appN (xs := signs) hnb sl22 infoz3 (by decide) rfl rfl rfl (rfl) (hGr) (fun _ => rfl) (by simp; unfold maxLen; omega) (by simp; omega) (by omega) (by omega) ?_)
    intro bn dn w46 ho47 hnb'
    have hs48 := ho47.size
    clear hnb; have hnb := hnb'; clear hnb'
    have hz51 := ho47.size
    replace hN := hN.out ho47 (by first | omega | (simp only [blk_some, hi1_some] at *; omega))
    replace hT := hT.out ho47 (by first | omega | (simp only [blk_some, hi1_some] at *; omega))
    replace hE := hE.step ho47 (by first | omega | (simp only [blk_some, hi1_some] at *; omega))
    replace hb2 := hb2.out ho47 (by first | omega | (simp only [blk_some, hi1_some] at *; omega))
    replace hO := hO.out ho47 (by first | omega | (simp only [blk_some, hi1_some] at *; omega))
    replace hCR := hCR.out ho47 (by first | omega | (simp only [blk_some, hi1_some] at *; omega))
    replace hlp0 := hlp0.step ho47 (by first | omega | (simp only [blk_some, hi1_some] at *; omega))
    replace hAr := hAr.out ho47 (by first | omega | (simp only [blk_some, hi1_some] at *; omega))
    replace hGr := hGr.out ho47 (by first | omega | (simp only [blk_some, hi1_some] at *; omega))
    have hrnhna := hna.rng
    replace hna := hna.out ho47 (by first | omega | (simp only [blk_some, hi1_some] at *; omega))
    refine st (y_build (bld37_0_1 _ _ _ _ _ _ _) rfl) ?_
    refine sd (d_bs (bsl30_1 _ _ _ _ _ _ _) rfl ?_)
    intro bl55 w52 hbbl55 hs54 ho53 hbl55
    have hz56 := ho53.size
    replace hN := hN.ext ho53
    replace hT := hT.ext ho53
    replace hE := hE.step ho53 (.inl (Nat.le_refl _))
    replace hb2 := hb2.ext ho53
    replace hO := hO.ext ho53
    replace hCR := hCR.ext ho53
    replace hlp0 := hlp0.step ho53 (.inl (Nat.le_refl _))
    replace hAr := hAr.ext ho53
    replace hGr := hGr.ext ho53
    replace hna := hna.ext ho53
    replace hnb := hnb.ext ho53
    have hn1 := Ow.sl hna
    have hn2 := Ow.sl hnb
    have hcap := hna.lenLe
    have hR0 := hCR.wide (hi' := w52.heap.size) (by omega)
    have hOr := hO.rng
    have hrhO := hO.rng
    refine sd (d_appA (xs := [(⟨an, cn, (k : Int) :: arcs, bn, dn, 1 :: signs⟩ : Cyc)]) hO sl30 infoz37 (by decide) rfl rfl rfl rfl (hbl55) (fun _ => rfl) (by simp; unfold maxLen; omega) (by simp; omega) (by omega) (by omega) ?_)
    intro ao1 co1 w57 hat hoA hO'
    have hs58 := hoA.size
    clear hO; have hO := hO'; clear hO'
    have hz61 := hoA.size
    replace hN := hN.out hoA (by first | omega | (simp only [blk_some, hi1_some] at *; omega))
    replace hT := hT.out hoA (by first | omega | (simp only [blk_some, hi1_some] at *; omega))
    replace hE := hE.step hoA (by first | omega | (simp only [blk_some, hi1_some] at *; omega))
    replace hb2 := hb2.out hoA (by first | omega | (simp only [blk_some, hi1_some] at *; omega))
    replace hlp0 := hlp0.step hoA (by first | omega | (simp only [blk_some, hi1_some] at *; omega))
    replace hAr := hAr.out hoA (by first | omega | (simp only [blk_some, hi1_some] at *; omega))
    replace hGr := hGr.out hoA (by first | omega | (simp only [blk_some, hi1_some] at *; omega))
    have hCR1 := hR0.app (r := (⟨an, cn, (k : Int) :: arcs, bn, dn, 1 :: signs⟩ : Cyc)) hn1 hn2 (by omega) (by omega) (by omega) (by omega) (by omega) (by omega) hoA (Nat.le_refl _) hat
    have hall1 : ∀ r ∈ l ++ [(⟨an, cn, (k : Int) :: arcs, bn, dn, 1 :: signs⟩ : Cyc)], CyOk N r.arcs r.signs ∧ r.arcs.length ≤ r.c := fun r hr => by
      rcases List.mem_append.1 hr with h | h
      · exact hall r h
      · rw [List.mem_singleton.1 h]; exact ⟨hcy, hcap⟩
    refine st (asS rfl) ?_
    refine rg_end ?_
    refine n_blk ?_
    refine n_then ?_
    refine rg ?_
    refine st (mvI rfl) ?_
    refine st (y_add rfl rfl (by omega)) ?_
    refine st (asI rfl) ?_
    refine rg_end ?_
    exact n_then ⟨(k + 1, _, _, _), _, rfl, same_lk rfl (same_h0), ⟨rfl, rfl, trivial⟩, ⟨hlp0, by omega, by first | omega | (simp; omega), hall1, hO.wide (by omega), hCR1.wide (by omega)⟩, by first | omega | (dsimp only; omega)⟩
  ·
   try simp only [nm] at hc1
   refine wp_exit ?_
   refine e_then (e_then (e_blk (?_)))
   refine n_then ?_
   refine wp_seq ?_
   refine rg ?_
   refine st (mvS rfl) ?_
   refine st (asS rfl) ?_
   refine st (asI rfl) ?_
   refine rg_end ?_
   refine n_then ?_
   refine wp_ret ?_
   refine ret2 (v := (.slice _ _ _)) (v' := (.int .i64 _)) Try.results15 rfl rfl ?_
   exact ⟨ao, co, l, 0, rfl, ⟨Sl.wide (Ow.sl hO) (by omega) (by omega), fun r hr => by
     obtain ⟨l1, h1, l2, h2, a1, a2, a3, a4, a5, a6, a7, a8⟩ := hCR.row r hr
     exact ⟨Sl.wide a1 (by omega) (by omega), Sl.wide a2 (by omega) (by omega)⟩⟩, hall, by omega, hE⟩

set_option maxHeartbeats 1000000 in
set_option maxRecDepth 100000 in
theorem law12_cycle_ok (N : Net) (A : NetA) (lo hi : Nat) (pk : Int) (w : World) (hN : NetIn lo hi w N A)  : Cal Try.prog 21 [netV N A, .int .i64 pk] w (fun v w' => ∃ aa ca ag cg arcs signs b, v = .tuple #[.agg #[.slice aa arcs.length ca, .slice ag signs.length cg], .bool b] ∧ Ints w.heap.size w'.heap.size w' aa arcs ∧ Ints w.heap.size w'.heap.size w' ag signs ∧ (b = true → CyOk N arcs signs ∧ arcs.length ≤ ca) ∧ Ext w w') := by
 replace hN := hN.full
 have hE : Out 0 0 w w := Out.refl _ _ w
 refine enter Try.func21 rfl Try.ntmps21 rfl ?_
 refine wp_seq ?_
 refine rg ?_
 refine sd (d_boxA rfl ?_)
 intro b2 w1 hbb2 hs3 ho2 hb2
 have hz4 := ho2.size
 replace hN := hN.ext ho2
 replace hE := hE.step ho2 (.inl (Nat.le_refl _))
 refine sd (d_allocA zer37 ?_)
 intro b4 w5 hbb4 hs7 ho6 hb4
 have hz8 := ho6.size
 replace hN := hN.ext ho6
 replace hE := hE.step ho6 (.inl (Nat.le_refl _))
 replace hb2 := hb2.ext ho6
 refine st (asB rfl) ?_
 refine rg_end ?_
 refine n_then ?_
 refine wp_seq ?_
 refine rgD 8 (fun w_ => Ext w5 w_) (fun i => Nat.beq i 2 || Nat.beq i 3) mixed (by kernel_rfl) ?_
 intro w9 ho10 hs11
 refine ⟨ho10, ?_⟩
 have hx12 := ho10
 refine tn rfl (fun _ hG => y_lbN (hb2.ext hG) agg26 rfl) ?_
 refine tn rfl (fun _ hG => y_lbN (hb2.ext hG) agg26 rfl) ?_
 refine tc rfl cl13 (ref11_Tree_ok N A _ _ _ (hN.ext hx12)) rfl ?_
 rintro v17 w13 ⟨at1, ct1, tree, rfl, hTr, htl, ho14⟩
 have hx18 := hx12.step ho14 (.inl (Nat.le_refl _))
 have hz19 := ho14.size
 refine ⟨hx18, ?_⟩
 refine tc rfl cl15 (ref11_Fundamental_ok N A _ _ tree _ _ _ _ _ (hN.ext hx18) hTr (by omega)) rfl ?_
 rintro v24 w20 ⟨ac, cc, l, e, rfl, hC, hall, hll, ho21⟩
 have hx25 := hx18.step ho21 (.inl (Nat.le_refl _))
 have hz26 := ho21.size
 replace hTr := hTr.ext ho21
 refine ⟨hx25, ?_⟩
 refine tn rfl (fun _ hG => mvT rfl) ?_
 refine tn rfl (fun _ hG => y_ext rfl rfl) ?_
 refine tn rfl (fun _ hG => y_ext rfl rfl) ?_
 refine tn rfl (fun _ hG => asS rfl) ?_
 refine t_end ?_
 have hz27 := hx25.size
 replace hN := hN.ext hx25
 replace hE := hE.step hx25 (.inl (Nat.le_refl _))
 replace hb2 := hb2.ext hx25
 replace hb4 := hb4.ext hx25
 refine st (asI rfl) ?_
 refine rg_end ?_
 refine n_then ?_
 refine wp_seq ?_
 refine wp_seq ?_
 refine rg ?_
 refine st (mvS rfl) ?_
 refine st (y_len Try.underlying30 rfl) ?_
 refine st (y_eql rfl rfl) ?_
 refine rg_end ?_
 refine n_then ?_
 refine cnd rfl (fun hc0 => ?_) (fun hc0 => ?_)
 ·
  try simp only [nm] at hc0
  refine wp_seq ?_
  refine rg ?_
  refine st (y_build (bld37_ _) rfl) ?_
  refine sd0 (d_stN hb4 rfl rfl sz37 rfl rfl ?_)
  intro w28 hs30 ho29 hb4'
  clear hb4; have hb4 := hb4'; clear hb4'
  have hz31 := ho29.size
  replace hN := hN.out ho29 (by first | omega | (simp only [blk_some, hi1_some] at *; omega))
  replace hE := hE.step ho29 (by first | omega | (simp only [blk_some, hi1_some] at *; omega))
  replace hb2 := hb2.out ho29 (by first | omega | (simp only [blk_some, hi1_some] at *; omega))
  replace hTr := hTr.out ho29 (by first | omega | (simp only [blk_some, hi1_some] at *; omega))
  replace hC := hC.out ho29 (by first | omega | (simp only [blk_some, hi1_some] at *; omega))
  refine st (asB rfl) ?_
  refine rg_end ?_
  refine n_then ?_
  refine wp_ret ?_
  refine r_then (retC2 (v' := (.bool _)) Try.results21 hb4 agg37 rfl rfl ?_)
  exact ⟨none, 0, none, 0, [], [], false, rfl, nilS0, nilS0, (fun h => by cases h), hE⟩
 ·
  try simp only [nm] at hc0
  refine wp_skip ?_
  refine n_then ?_
  refine wp_seq ?_
  refine rg ?_
  refine st (mvS rfl) ?_
  refine st (mvI rfl) ?_
  refine st (mvS rfl) ?_
  refine st (y_len Try.underlying30 rfl) ?_
  refine sc cl23 (keep_Pick_ok _ _ _ (by omega) (by omega)) rfl ?_
  rintro v36 w32 ⟨rfl, ho33⟩
  have hpk := pick_rng pk ((l.length : Nat) : Int) (by omega)
  obtain ⟨j, hj⟩ : ∃ j : Nat, pick pk ((l.length : Nat) : Int) = (j : Int) := Int.eq_ofNat_of_zero_le hpk.1
  rw [hj] at hpk ⊢
  have hz37 := ho33.size
  replace hN := hN.ext ho33
  replace hE := hE.step ho33 (.inl (Nat.le_refl _))
  replace hb2 := hb2.ext ho33
  replace hb4 := hb4.ext ho33
  replace hTr := hTr.ext ho33
  replace hC := hC.ext ho33
  have hmj := el_mem (l := l) (i := (j : Int)) (by omega) (by omega)
  have hc12 := hC.row _ hmj
  have hcj := hall _ hmj
  have hc1_ := hc12.1
  have hc2_ := hc12.2
  refine st (y_ix hC.tb sl30 rfl (rfl) rfl (by omega) (by omega)) ?_
  refine st (y_lw hC.tb agg37 rfl (by omega) (by omega)) ?_
  refine sd0 (d_stN hb4 rfl rfl sz37 rfl rfl ?_)
  intro w38 hs40 ho39 hb4'
  clear hb4; have hb4 := hb4'; clear hb4'
  have hz41 := ho39.size
  replace hN := hN.out ho39 (by first | omega | (simp only [blk_some, hi1_some] at *; omega))
  replace hE := hE.step ho39 (by first | omega | (simp only [blk_some, hi1_some] at *; omega))
  replace hb2 := hb2.out ho39 (by first | omega | (simp only [blk_some, hi1_some] at *; omega))
  replace hTr := hTr.out ho39 (by first | omega | (simp only [blk_some, hi1_some] at *; omega))
  replace hC := hC.out ho39 (by first | omega | (simp only [blk_some, hi1_some] at *; omega))
  replace hc1_ := hc1_.out ho39 (by first | omega | (simp only [blk_some, hi1_some] at *; omega))
  replace hc2_ := hc2_.out ho39 (by first | omega | (simp only [blk_some, hi1_some] at *; omega))
  refine st (asB rfl) ?_
  refine rg_end ?_
  refine n_then ?_
  refine wp_ret ?_
  refine retC2 (v' := (.bool _)) Try.results21 hb4 agg37 rfl rfl ?_
  exact ⟨(el l (j : Int)).a, (el l (j : Int)).c, (el l (j : Int)).b, (el l (j : Int)).d, (el l (j : Int)).arcs, (el l (j : Int)).signs, true, rfl, Sl.wide hc1_ (by omega) (by omega), Sl.wide hc2_ (by omega) (by omega), fun _ => hcj, hE⟩

def trN : Net := ⟨10, List.replicate 3 ⟨0, 0, 0⟩, [⟨0, 0, 1, 1, 3, 0⟩, ⟨0, 1, 2, 1, 3, 0⟩, ⟨0, 0, 2, 1, 3, 0⟩]⟩
theorem tri_ok : FoOk trN [1, 2] := by
  refine ⟨netOk_iff.1 (by kernel_rfl), ⟨fun q hq => ?_, fun q hq => ?_, fun q hq => ?_⟩, fun i hi => ?_⟩
  · match q, hq with
    | 0, _ => decide
    | 1, _ => decide
  · match q, hq with
    | 0, _ => decide
  · match q, hq with
    | 0, _ => decide
    | 1, _ => decide
  · match i, hi with
    | 0, _ => decide
    | 1, _ => decide
    | 2, _ => decide
theorem tri_no : ¬ FoOk trN [1] := fun h => by
  have h1 := h.span 0 (by decide)
  have h2 : conB (([1] : List Int).map (el trN.acts)) (el trN.acts ((0 : Nat) : Int)).fr (el trN.acts ((0 : Nat) : Int)).tt = false := by kernel_rfl
  rw [h2] at h1; cases h1

set_option maxRecDepth 100000 in
theorem law12_triangle_ok (w : World) : Cal Try.prog 31 [] w (fun v w' => ∃ A, v = netV trN A ∧ NetIn w.heap.size w'.heap.size w' trN A ∧ Ext w w') := by
 have hE : Out 0 0 w w := Out.refl _ _ w
 refine enter Try.func31 rfl Try.ntmps31 rfl ?_
 refine wp_seq ?_
 refine rg ?_
 refine sd (d_allocA zer26 ?_)
 intro b0 w1 hbb0 hs3 ho2 hb0
 have hz4 := ho2.size
 replace hE := hE.step ho2 (.inl (Nat.le_refl _))
 refine rg_end ?_
 refine n_then ?_
 refine wp_seq ?_
 refine rg ?_
 refine sd (d_make (m := 3) (lo := w.heap.size) (enc := encEv) (e0 := (⟨0, 0, 0⟩ : Ev)) sl23 info64 (fun _ => rfl) rfl rfl rfl (by omega) (by unfold maxLen; omega) (by omega) ?_)
 intro be w5 hbbe hs7 ho6 hev
 have hz9 := ho6.size
 replace hE := hE.step ho6 (.inl (Nat.le_refl _))
 replace hb0 := hb0.ext ho6
 refine st (y_build (bld43_1_2_3_4 _ _ _ _ _) rfl) ?_
 refine st (y_build (bld43_1_2_3_4 _ _ _ _ _) rfl) ?_
 refine st (y_build (bld43_1_2_3_4 _ _ _ _ _) rfl) ?_
 refine sd (d_bs (bsl24_3 _ _ _ _ _ _ _ _ _ _ _ _ _ _ _ _ _ _ _) rfl ?_)
 intro ba w10 hbba hs12 ho11 hba
 have hac : Sl encAc 6 ba (ba + 1) w10 (some ⟨ba, 0, none⟩) trN.acts := Blk.sl (l := trN.acts) hba (fun _ => rfl) (Nat.le_refl _) (Nat.lt_succ_self _)
 have hz13 := ho11.size
 replace hE := hE.step ho11 (.inl (Nat.le_refl _))
 replace hb0 := hb0.ext ho11
 replace hev := hev.ext ho11
 refine st (y_build (bld26_0_1_2 _ _ _ _ _ _ _ _) rfl) ?_
 refine sd0 (d_stN hb0 rfl rfl sz26 rfl rfl ?_)
 intro w14 hs16 ho15 hb0'
 clear hb0; have hb0 := hb0'; clear hb0'
 have hz17 := ho15.size
 replace hE := hE.step ho15 (by first | omega | (simp only [blk_some, hi1_some] at *; omega))
 have hrnhev := hev.rng
 replace hev := hev.out ho15 (by first | omega | (simp only [blk_some, hi1_some] at *; omega))
 replace hac := hac.out ho15 (by first | omega | (simp only [blk_some, hi1_some] at *; omega))
 refine rg_end ?_
 refine n_then ?_
 refine wp_ret ?_
 refine retC Try.results31 hb0 agg26 rfl ?_
 exact ⟨⟨some ⟨be, 0, none⟩, 3, some ⟨ba, 0, none⟩, 3⟩, rfl, ⟨Sl.wide hev.sl (by omega) (by omega), Sl.wide hac (by omega) (by omega)⟩, hE⟩

set_option maxRecDepth 100000 in
theorem law12_awake_ok (w : World) : Cal Try.prog 19 [] w (fun v w' => v = .bool true ∧ Ext w w') := by
 have hE : Out 0 0 w w := Out.refl _ _ w
 refine enter Try.func19 rfl Try.ntmps19 rfl ?_
 refine wp_seq ?_
 refine rg ?_
 refine st (asB rfl) ?_
 refine rg_end ?_
 refine n_then ?_
 refine wp_seq ?_
 refine rg ?_
 refine sc cl31 (law12_triangle_ok _) rfl ?_
 rintro v5 w1 ⟨A0, rfl, hN0, ho2⟩
 have hz6 := ho2.size
 replace hE := hE.step ho2 (.inl (Nat.le_refl _))
 refine sd (d_bs (bsl22_2 _ _ _) rfl ?_)
 intro s0 w7 hbs0 hs9 ho8 hs0
 have hs0 : Sl encI 1 s0 (s0 + 1) w7 (some ⟨s0, 0, none⟩) [(1 : Int), 2] := Blk.sl (l := [(1 : Int), 2]) hs0 (fun _ => rfl) (Nat.le_refl _) (Nat.lt_succ_self _)
 have hz10 := ho8.size
 replace hE := hE.step ho8 (.inl (Nat.le_refl _))
 replace hN0 := hN0.ext ho8
 refine sc cl44 (cycles_Forest_ok trN A0 _ _ [1, 2] _ _ _ _ _ hN0 hs0 (by decide)) rfl ?_
 rintro v15 w11 ⟨b, rfl, hb, ho12⟩
 have hbt : b = true := hb.2 tri_ok
 have hz16 := ho12.size
 replace hE := hE.step ho12 (.inl (Nat.le_refl _))
 replace hN0 := hN0.ext ho12
 replace hs0 := hs0.ext ho12
 refine st (mvB rfl) ?_
 refine scg rfl rfl hbt cl31 (law12_triangle_ok _) rfl ?_
 rintro v21 w17 ⟨A1, rfl, hN1, ho18⟩
 have hz22 := ho18.size
 replace hE := hE.step ho18 (.inl (Nat.le_refl _))
 replace hN0 := hN0.ext ho18
 replace hs0 := hs0.ext ho18
 refine sdg rfl rfl hbt (d_bs (bsl22_1 _ _) rfl ?_)
 intro s1 w23 hbs1 hs25 ho24 hs1
 have hs1 : Sl encI 1 s1 (s1 + 1) w23 (some ⟨s1, 0, none⟩) [(1 : Int)] := Blk.sl (l := [(1 : Int)]) hs1 (fun _ => rfl) (Nat.le_refl _) (Nat.lt_succ_self _)
 have hz26 := ho24.size
 replace hE := hE.step ho24 (.inl (Nat.le_refl _))
 replace hN0 := hN0.ext ho24
 replace hs0 := hs0.ext ho24
 replace hN1 := hN1.ext ho24
 refine scg rfl rfl hbt cl44 (cycles_Forest_ok trN A1 _ _ [1] _ _ _ _ _ hN1 hs1 (by decide)) rfl ?_
 rintro v31 w27 ⟨b2, rfl, hb2, ho28⟩
 have hbf : b2 = false := by
   cases e : b2 with
   | false => rfl
   | true => exact absurd (hb2.1 e) tri_no
 have hz32 := ho28.size
 replace hE := hE.step ho28 (.inl (Nat.le_refl _))
 replace hN0 := hN0.ext ho28
 replace hs0 := hs0.ext ho28
 replace hN1 := hN1.ext ho28
 replace hs1 := hs1.ext ho28
 refine stg rfl rfl hbt (y_not rfl) ?_
 refine st (y_pickT rfl hbt (v := .bool _) rfl) ?_
 refine st (asB rfl) ?_
 refine rg_end ?_
 refine n_then ?_
 refine wp_ret ?_
 refine ret1 (v := (.bool _)) Try.results19 rfl ?_
 exact ⟨by rw [hbf]; rfl, hE⟩
end Go.Proofs.Ytdgkaahghlbocaa
