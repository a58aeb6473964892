/-
  Walks of the functions, printed by a program out of the code and the loops' relations.
-/
import Derived.Test.YtclligkngjhihaaWkI
import Derived.Test.YtclligkngjhihaaProg
import Derived.KernelRfl
import Derived.Test.YtclligkngjhihaaK4
namespace Go.Proofs.Ytclligkngjhihaa
open Go.Wk Go.RowKit
set_option linter.unusedVariables false
set_option linter.unusedSimpArgs false
theorem bld58_0_1 (d0 : Option Addr) (l0 : Nat) (c0 : Nat) (d1 : Option Addr) (l1 : Nat) (c1 : Nat) (w : World) : (Instr.build 58 [(0, (.slice d0 l0 c0)), (1, (.slice d1 l1 c1))].toArray).run Try.prog w = .ok (.agg [(.slice d0 l0 c0), (.slice d1 l1 c1)].toArray) w := by kernel_rfl
theorem bsl53_1 (d0_0 : Option Addr) (l0_0 : Nat) (c0_0 : Nat) (d0_1 : Option Addr) (l0_1 : Nat) (c0_1 : Nat) (w : World) : (Instr.buildSlice 53 1 [(0, (.agg #[(.slice d0_0 l0_0 c0_0), (.slice d0_1 l0_1 c0_1)]))].toArray).run Try.prog w = .ok (.slice (some ⟨w.heap.size, 0, none⟩) 1 1) (w.alloc (.cells [(.slice d0_0 l0_0 c0_0), (.slice d0_1 l0_1 c0_1)].toArray 58)) := by kernel_rfl
theorem cl48 : Callable Try.prog 48 := ⟨Try.call48⟩
theorem cl49 : Callable Try.prog 49 := ⟨Try.call49⟩
theorem cl50 : Callable Try.prog 50 := ⟨Try.call50⟩
set_option maxRecDepth 100000 in
theorem infoz58 : ∃ i, Try.prog.info? 58 = some i ∧ i.zero = some (.agg #[.slice none 0 0, .slice none 0 0]) ∧ i.size = 2 ∧ i.bytes = 48 ∧ (Value.cells (.agg #[.slice none 0 0, .slice none 0 0])).size = 2 := ⟨Try.t58, Try.type58, rfl, rfl, rfl, rfl⟩
theorem sl53 : SliceOf Try.prog 53 58 2 := ⟨Try.underlying53, Try.sizeOf58⟩

structure Cyc where
  a : Option Addr
  c : Nat
  arcs : List Int
  b : Option Addr
  d : Nat
  signs : List Int
  deriving Inhabited
def encCy (r : Cyc) : List Value := [.slice r.a r.arcs.length r.c, .slice r.b r.signs.length r.d]
structure CRows (z hi : Nat) (w : World) (ao : Option Addr) (l : List Cyc) : Prop where
  row : ∀ r ∈ l, ∃ l1 h1 l2 h2, Ints l1 h1 w r.a r.arcs ∧ Ints l2 h2 w r.b r.signs ∧ z ≤ l1 ∧ h1 ≤ hi ∧ (h1 ≤ blk ao ∨ hi1 ao ≤ l1) ∧ z ≤ l2 ∧ h2 ≤ hi ∧ (h2 ≤ blk ao ∨ hi1 ao ≤ l2)
theorem CRows.out {z hi a c : Nat} {w w' : World} {ao : Option Addr} {l : List Cyc} (h : CRows z hi w ao l) (ho : Out a c w w') (hs : hi ≤ a ∨ c ≤ z ∨ c ≤ a) : CRows z hi w' ao l :=
  ⟨fun r hr => by obtain ⟨l1, h1, l2, h2, a1, a2, a3, a4, a5, a6, a7, a8⟩ := h.row r hr; exact ⟨l1, h1, l2, h2, a1.out ho (by omega), a2.out ho (by omega), a3, a4, a5, a6, a7, a8⟩⟩
theorem CRows.ext {z hi : Nat} {w w' : World} {ao : Option Addr} {l : List Cyc} (h : CRows z hi w ao l) (ho : Ext w w') : CRows z hi w' ao l := h.out ho (.inr (.inr (Nat.le_refl _)))
theorem CRows.wide {z hi hi' : Nat} {w : World} {ao : Option Addr} {l : List Cyc} (h : CRows z hi w ao l) (hh : hi ≤ hi') : CRows z hi' w ao l :=
  ⟨fun r hr => by obtain ⟨l1, h1, l2, h2, a1, a2, a3, a4, a5, a6, a7, a8⟩ := h.row r hr; exact ⟨l1, h1, l2, h2, a1, a2, a3, by omega, a5, a6, by omega, a8⟩⟩
theorem CRows.app {z hi zz : Nat} {w w' : World} {ao a' : Option Addr} {l : List Cyc} {r : Cyc} {l1 h1 l2 h2 : Nat} (h : CRows z hi w ao l) (n1 : Ints l1 h1 w r.a r.arcs) (n2 : Ints l2 h2 w r.b r.signs) (b1 : z ≤ l1) (b2 : h1 ≤ hi) (b3 : hi1 ao ≤ l1) (b4 : z ≤ l2) (b5 : h2 ≤ hi) (b6 : hi1 ao ≤ l2) (ho : Out (blk ao) (hi1 ao) w w') (hz : hi ≤ zz)
    (hat : (blk a' = blk ao ∧ hi1 a' = hi1 ao) ∨ (blk a' = zz ∧ hi1 a' = zz + 1)) : CRows z hi w' a' (l ++ [r]) := by
  refine ⟨fun q hq => ?_⟩
  rcases List.mem_append.1 hq with hq | hq
  · obtain ⟨l1, h1, l2, h2, a1, a2, a3, a4, a5, a6, a7, a8⟩ := h.row q hq
    exact ⟨l1, h1, l2, h2, a1.out ho (by omega), a2.out ho (by omega), a3, a4, by omega, a6, a7, by omega⟩
  · rw [List.mem_singleton.1 hq]
    exact ⟨l1, h1, l2, h2, n1.out ho (by omega), n2.out ho (by omega), b1, b2, by omega, b4, b5, by omega⟩
structure CyIn (lo hi : Nat) (w : World) (ad : Option Addr) (l : List Cyc) : Prop where
  tb : Sl encCy 2 lo hi w ad l
  row : ∀ r ∈ l, Ints lo hi w r.a r.arcs ∧ Ints lo hi w r.b r.signs
theorem CyIn.out {lo hi a c : Nat} {w w' : World} {ad : Option Addr} {l : List Cyc} (h : CyIn lo hi w ad l) (ho : Out a c w w') (hs : hi ≤ a ∨ c ≤ lo ∨ c ≤ a) : CyIn lo hi w' ad l := ⟨h.tb.out ho hs, fun r hr => ⟨(h.row r hr).1.out ho hs, (h.row r hr).2.out ho hs⟩⟩
theorem CyIn.ext {lo hi : Nat} {w w' : World} {ad : Option Addr} {l : List Cyc} (h : CyIn lo hi w ad l) (ho : Ext w w') : CyIn lo hi w' ad l := h.out ho (.inr (.inr (Nat.le_refl _)))
theorem con_symK : ∀ (l : List Ac) (K : Int → Int → Bool), (∀ x y : Int, K x y = K y x) → ∀ x y : Int, (l.foldl (fun K a => joinK K a.fr a.tt) K) x y = (l.foldl (fun K a => joinK K a.fr a.tt) K) y x
  | [], K, hK, x, y => hK x y
  | a :: l, K, hK, x, y => con_symK l (joinK K a.fr a.tt) (fun x y => by
      unfold joinK
      rw [hK x y, Bool.or_assoc, Bool.or_assoc, Bool.or_comm (K x a.fr && K y a.tt), Bool.and_comm (K x a.tt), Bool.and_comm (K x a.fr)]) x y
theorem con_sym (l : List Ac) (x y : Int) : conB l x y = conB l y x := con_symK l _ (fun x y => by congr 1; exact propext ⟨Eq.symm, Eq.symm⟩) x y

set_option maxHeartbeats 4000000 in
set_option maxRecDepth 100000 in
theorem ref11_Fundamental_ok (N : Net) (A : NetA) (lo hi : Nat) (tree : List Int) (at_ : Option Addr) (ct lt ht : Nat) (w : World) (hN : NetIn lo hi w N A) (hT : Ints lt ht w at_ tree) (htn : (tree.length : Int) ≤ 9223372036854775807)  : Cal Try.prog 26 [netV N A, .slice at_ tree.length ct] w (fun v w' => ∃ ad c l e, v = .tuple #[.slice ad l.length c, .int .i64 e] ∧ CyIn w.heap.size w'.heap.size w' ad l ∧ (∀ r ∈ l, CyOk N r.arcs r.signs ∧ r.arcs.length ≤ r.c) ∧ ((l.length : Nat) : Int) ≤ 512 ∧ Ext w w') := by
 replace hN := hN.full
 replace hT := Ints.full hT
 have hE : Out 0 0 w w := Out.refl _ _ w
 refine enter Try.func26 rfl Try.ntmps26 rfl ?_
 refine wp_seq ?_
 refine rg ?_
 refine sd (d_boxA rfl ?_)
 intro b2 w1 hbb2 hs3 ho2 hb2
 have hz4 := ho2.size
 replace hN := hN.ext ho2
 replace hT := hT.ext ho2
 replace hE := hE.step ho2 (.inl (Nat.le_refl _))
 refine st (asS rfl) ?_
 refine st (asI rfl) ?_
 refine rg_end ?_
 refine n_then ?_
 refine wp_seq ?_
 refine wp_seq ?_
 refine rg ?_
 refine st (y_lbN hb2 agg26 rfl) ?_
 refine st (mvS rfl) ?_
 refine sc cl48 (ref11_Forest_ok N A _ _ tree _ _ _ _ _ hN hT htn) rfl ?_
 rintro v9 w5 ⟨b, rfl, hb, ho6⟩
 have hz10 := ho6.size
 replace hN := hN.ext ho6
 replace hT := hT.ext ho6
 replace hE := hE.step ho6 (.inl (Nat.le_refl _))
 replace hb2 := hb2.ext ho6
 refine st (y_not rfl) ?_
 refine rg_end ?_
 refine n_then ?_
 refine cnd rfl (fun hc0 => ?_) (fun hc0 => ?_)
 ·
  try simp only [nm] at hc0
  refine wp_seq ?_
  refine rg ?_
  refine st (asS rfl) ?_
  refine st (asI rfl) ?_
  refine rg_end ?_
  refine n_then ?_
  refine wp_ret ?_
  refine r_then (ret2 (v := (.slice _ _ _)) (v' := (.int .i64 _)) Try.results26 rfl rfl ?_)
  exact ⟨none, 0, [], 1, rfl, ⟨nilS0, fun r hr => by cases hr⟩, (fun r hr => by cases hr), by simp, hE⟩
 ·
  try simp only [nm] at hc0
  have hfo := hb.1 hc0
  have hok := hfo.ok
  have hac := hok.ac
  have htm := hfo.mem
  refine wp_skip ?_
  refine n_then ?_
  refine wp_seq ?_
  refine rg ?_
  refine st (asS rfl) ?_
  refine rg_end ?_
  refine n_then ?_
  refine wp_seq ?_
  refine wp_seq ?_
  refine rg ?_
  refine st (asI rfl) ?_
  refine rg_end ?_
  refine n_then ?_
  refine wp_block ?_
  obtain ⟨z1, hz1⟩ : ∃ z, z = w5.heap.size := ⟨_, rfl⟩
  refine lp (γ := Nat × List Cyc × Option Addr × Nat) [6, 7, 8, 9, 10, 15, 16, 17, 18, 19, 20, 21, 22, 23, 24, 25, 26, 27, 28, 29, 30, 31, 32, 33, 34, 35, 36, 37, 38, 39, 40, 41, 42, 43, 44, 45, 46, 47, 48, 49, 50, 51, 52, 53, 54] (fun ⟨k, l, ao, co⟩ => [(7, .int .i64 (k : Int)), (6, .slice ao l.length co)]) (fun ⟨k, l, ao, co⟩ w_ => Ext w5 w_ ∧ (k : Int) ≤ N.acts.length ∧ ((l.length : Nat) : Int) ≤ k ∧ (∀ r ∈ l, CyOk N r.arcs r.signs ∧ r.arcs.length ≤ r.c) ∧ Ow 58 encCy 2 z1 w_.heap.size w_ ao co l ∧ CRows z1 w_.heap.size w_ ao l) (fun ⟨k, l, ao, co⟩ => N.acts.length - k) (0, [], none, 0) ⟨rfl, rfl, trivial⟩ ⟨Out.refl _ _ _, by simp, by simp, (fun r hr => by cases hr), Ow.nil (fun _ => rfl), ⟨fun r hr => by cases hr⟩⟩ ?_
  rintro ⟨k, l, ao, co⟩ hav_ w11 ⟨ho12, hk, hlk, hall, hO, hCR⟩
  have hlp0 := ho12
  have hz13 := ho12.size
  replace hN := hN.ext ho12
  replace hT := hT.ext ho12
  replace hE := hE.step ho12 (.inl (Nat.le_refl _))
  replace hb2 := hb2.ext ho12
  refine wp_seq ?_
  refine wp_seq ?_
  refine rg ?_
  refine st (mvI rfl) ?_
  refine st (y_fld fld26_2 rfl) ?_
  refine st (y_lb hb2 na24 rfl rfl) ?_
  refine st (y_len Try.underlying24 rfl) ?_
  refine st (y_lss rfl rfl) ?_
  refine rg_end ?_
  refine n_then ?_
  refine cnd rfl (fun hc1 => ?_) (fun hc1 => ?_)
  ·
   try simp only [nm] at hc1
   have ha := hok.acs _ (el_mem (l := N.acts) (i := (k : Int)) (by omega) hc1)
   have hcon : conB (tree.map (el N.acts)) (el N.acts (k : Int)).tt (el N.acts (k : Int)).fr = true := by rw [con_sym]; exact hfo.span k (by omega)
   refine wp_skip ?_
   refine n_then ?_
   refine wp_seq ?_
   refine wp_block ?_
   refine wp_seq ?_
   refine wp_seq ?_
   refine rg ?_
   refine st (mvS rfl) ?_
   refine st (mvI rfl) ?_
   refine sc cl49 (ref11_has_ok tree _ _ _ _ (k : Int) _ _ rfl hT htn) rfl ?_
   rintro v18 w14 ⟨rfl, ho15⟩
   have hz19 := ho15.size
   replace hN := hN.ext ho15
   replace hT := hT.ext ho15
   replace hE := hE.step ho15 (.inl (Nat.le_refl _))
   replace hb2 := hb2.ext ho15
   replace hO := hO.ext ho15
   replace hCR := hCR.ext ho15
   replace hlp0 := hlp0.step ho15 (.inl (Nat.le_refl _))
   refine rg_end ?_
   refine n_then ?_
   refine cnd rfl (fun hc2 => ?_) (fun hc2 => ?_)
   ·
    try simp only [nm] at hc2
    have hall1 := hall
    have hCR1 := hCR
    refine wp_exit ?_
    refine e_then (e_blk (?_))
    refine n_then ?_
    refine rg ?_
    refine st (mvI rfl) ?_
    refine st (y_add rfl rfl (by omega)) ?_
    refine st (asI rfl) ?_
    refine rg_end ?_
    exact n_then ⟨(k + 1, _, _, _), _, rfl, same_lk rfl (same_h0), ⟨rfl, rfl, trivial⟩, ⟨hlp0, by omega, by first | omega | (simp; omega), hall1, hO.wide (by omega), hCR1.wide (by omega)⟩, by first | omega | (dsimp only; omega)⟩
   ·
    try simp only [nm] at hc2
    refine wp_skip ?_
    refine n_then ?_
    refine wp_seq ?_
    refine rgD 21 (fun w_ => Ext w14 w_) (fun i => Nat.beq i 14) mixed (by kernel_rfl) ?_
    intro w20 ho21 hs22
    refine ⟨ho21, ?_⟩
    have hx23 := ho21
    refine tn rfl (fun _ hG => y_lbN (hb2.ext hG) agg26 rfl) ?_
    refine tn rfl (fun _ hG => mvS rfl) ?_
    refine tn rfl (fun _ hG => y_fld fld26_2 rfl) ?_
    refine tn rfl (fun _ hG => y_lb (hb2.ext hG) na24 rfl rfl) ?_
    refine tn rfl (fun _ hG => mvI rfl) ?_
    refine tn rfl (fun _ hG => y_ix (hN.a.ext hG) sl24 rfl (rfl) rfl (by omega) (by omega)) ?_
    refine tn rfl (fun _ hG => y_fld fld36_2 rfl) ?_
    refine tn rfl (fun _ hG => y_lf (hN.a.ext hG) na3 rfl (by omega) (by omega) rfl) ?_
    refine tn rfl (fun _ hG => y_fld fld26_2 rfl) ?_
    refine tn rfl (fun _ hG => y_lb (hb2.ext hG) na24 rfl rfl) ?_
    refine tn rfl (fun _ hG => mvI rfl) ?_
    refine tn rfl (fun _ hG => y_ix (hN.a.ext hG) sl24 rfl (rfl) rfl (by omega) (by omega)) ?_
    refine tn rfl (fun _ hG => y_fld fld36_1 rfl) ?_
    refine tn rfl (fun _ hG => y_lf (hN.a.ext hG) na3 rfl (by omega) (by omega) rfl) ?_
    refine tc rfl cl50 (ref11_path_ok N A _ _ tree _ _ _ _ (el N.acts (k : Int)).tt (el N.acts (k : Int)).fr _ (hN.ext hx23) (hT.ext hx23) htn hok htm ha.t0 ha.t1 ha.f0 ha.f1 hcon) rfl ?_
    rintro v28 w24 ⟨aa, ca, ag, cg, arcs, signs, xs, rk, rfl, hAr, hGr, hpa, hal, ho25⟩
    have hcy := hpa.cycle hok (by omega) hc2 htm
    have hsl := hpa.slen
    have hx29 := hx23.step ho25 (.inl (Nat.le_refl _))
    have hz30 := ho25.size
    refine ⟨hx29, ?_⟩
    refine tn rfl (fun _ hG => mvT rfl) ?_
    refine tn rfl (fun _ hG => y_ext rfl rfl) ?_
    refine tn rfl (fun _ hG => y_ext rfl rfl) ?_
    refine tn rfl (fun _ hG => y_ext rfl rfl) ?_
    refine tn rfl (fun _ hG => asS rfl) ?_
    refine tn rfl (fun _ hG => asS rfl) ?_
    refine t_end ?_
    have hz31 := hx29.size
    replace hN := hN.ext hx29
    replace hT := hT.ext hx29
    replace hE := hE.step hx29 (.inl (Nat.le_refl _))
    replace hb2 := hb2.ext hx29
    replace hO := hO.ext hx29
    replace hCR := hCR.ext hx29
    replace hlp0 := hlp0.step hx29 (.inl (Nat.le_refl _))
    refine st (asB rfl) ?_
    refine rg_end ?_
    refine n_then ?_
    refine rg ?_
    refine st (mvS rfl) ?_
    refine st (mvI rfl) ?_
    refine sd (d_bsO (lo := w24.heap.size) (enc := encI) (l := [_]) (sz := 1) (fun _ => rfl) (bsl22_1 _ _) rfl rfl (by unfold maxLen; omega) (by omega) ?_)
    intro b1 w32 hbb1 hs34 ho33 hna
    have hz35 := ho33.size
    replace hN := hN.ext ho33
    replace hT := hT.ext ho33
    replace hE := hE.step ho33 (.inl (Nat.le_refl _))
    replace hb2 := hb2.ext ho33
    replace hO := hO.ext ho33
    replace hCR := hCR.ext ho33
    replace hlp0 := hlp0.step ho33 (.inl (Nat.le_refl _))
    replace hAr := hAr.ext ho33
    replace hGr := hGr.ext ho33
    refine st (mvS rfl) ?_
    have hrhna := hna.rng
    refine sd (d_appN (xs := arcs) hna sl22 infoz3 (by decide) rfl rfl rfl (rfl) (hAr) (fun _ => rfl) (by simp; unfold maxLen; omega) (by simp; omega) (by omega) (by omega) ?_)
    intro an cn w36 ho37 hna'
    have hs38 := ho37.size
    clear hna; have hna := hna'; clear hna'
    have hz41 := ho37.size
    replace hN := hN.out ho37 (by first | omega | (simp only [blk_some, hi1_some] at *; omega))
    replace hT := hT.out ho37 (by first | omega | (simp only [blk_some, hi1_some] at *; omega))
    replace hE := hE.step ho37 (by first | omega | (simp only [blk_some, hi1_some] at *; omega))
    replace hb2 := hb2.out ho37 (by first | omega | (simp only [blk_some, hi1_some] at *; omega))
    have hrnhO := hO.rng
    replace hO := hO.out ho37 (by first | omega | (simp only [blk_some, hi1_some] at *; omega))
    replace hCR := hCR.out ho37 (by first | omega | (simp only [blk_some, hi1_some] at *; omega))
    replace hlp0 := hlp0.step ho37 (by first | omega | (simp only [blk_some, hi1_some] at *; omega))
    replace hAr := hAr.out ho37 (by first | omega | (simp only [blk_some, hi1_some] at *; omega))
    replace hGr := hGr.out ho37 (by first | omega | (simp only [blk_some, hi1_some] at *; omega))
    refine sd (d_bsO (lo := w36.heap.size) (enc := encI) (l := [_]) (sz := 1) (fun _ => rfl) (bsl22_1 _ _) rfl rfl (by unfold maxLen; omega) (by omega) ?_)
    intro b5 w42 hbb5 hs44 ho43 hnb
    have hz45 := ho43.size
    replace hN := hN.ext ho43
    replace hT := hT.ext ho43
    replace hE := hE.step ho43 (.inl (Nat.le_refl _))
    replace hb2 := hb2.ext ho43
    replace hO := hO.ext ho43
    replace hCR := hCR.ext ho43
    replace hlp0 := hlp0.step ho43 (.inl (Nat.le_refl _))
    replace hAr := hAr.ext ho43
    replace hGr := hGr.ext ho43
    replace hna := hna.ext ho43
    refine st (mvS rfl) ?_
    have hrhnb := hnb.rng
    refine sd (d_appN (xs := signs) hnb sl22 infoz3 (by decide) rfl rfl rfl (rfl) (hGr) (fun _ => rfl) (by simp; unfold maxLen; omega) (by simp; omega) (by omega) (by omega) ?_)
    intro bn dn w46 ho47 hnb'
    have hs48 := ho47.size
    clear hnb; have hnb := hnb'; clear hnb'
    have hz51 := ho47.size
    replace hN := hN.out ho47 (by first | omega | (simp only [blk_some, hi1_some] at *; omega))
    replace hT := hT.out ho47 (by first | omega | (simp only [blk_some, hi1_some] at *; omega))
    replace hE := hE.step ho47 (by first | omega | (simp only [blk_some, hi1_some] at *; omega))
    replace hb2 := hb2.out ho47 (by first | omega | (simp only [blk_some, hi1_some] at *; omega))
    replace hO := hO.out ho47 (by first | omega | (simp only [blk_some, hi1_some] at *; omega))
    replace hCR := hCR.out ho47 (by first | omega | (simp only [blk_some, hi1_some] at *; omega))
    replace hlp0 := hlp0.step ho47 (by first | omega | (simp only [blk_some, hi1_some] at *; omega))
    replace hAr := hAr.out ho47 (by first | omega | (simp only [blk_some, hi1_some] at *; omega))
    replace hGr := hGr.out ho47 (by first | omega | (simp only [blk_some, hi1_some] at *; omega))
    have hrnhna := hna.rng
    replace hna := hna.out ho47 (by first | omega | (simp only [blk_some, hi1_some] at *; omega))
    refine st (y_build (bld58_0_1 _ _ _ _ _ _ _) rfl) ?_
    refine sd (d_bs (bsl53_1 _ _ _ _ _ _ _) rfl ?_)
    intro bl55 w52 hbbl55 hs54 ho53 hbl55
    have hz56 := ho53.size
    replace hN := hN.ext ho53
    replace hT := hT.ext ho53
    replace hE := hE.step ho53 (.inl (Nat.le_refl _))
    replace hb2 := hb2.ext ho53
    replace hO := hO.ext ho53
    replace hCR := hCR.ext ho53
    replace hlp0 := hlp0.step ho53 (.inl (Nat.le_refl _))
    replace hAr := hAr.ext ho53
    replace hGr := hGr.ext ho53
    replace hna := hna.ext ho53
    replace hnb := hnb.ext ho53
    have hn1 := Ow.sl hna
    have hn2 := Ow.sl hnb
    have hcap := hna.lenLe
    have hR0 := hCR.wide (hi' := w52.heap.size) (by omega)
    have hOr := hO.rng
    have hrhO := hO.rng
    refine sd (d_appA (xs := [(⟨an, cn, (k : Int) :: arcs, bn, dn, 1 :: signs⟩ : Cyc)]) hO sl53 infoz58 (by decide) rfl rfl rfl rfl (hbl55) (fun _ => rfl) (by simp; unfold maxLen; omega) (by simp; omega) (by omega) (by omega) ?_)
    intro ao1 co1 w57 hat hoA hO'
    have hs58 := hoA.size
    clear hO; have hO := hO'; clear hO'
    have hz61 := hoA.size
    replace hN := hN.out hoA (by first | omega | (simp only [blk_some, hi1_some] at *; omega))
    replace hT := hT.out hoA (by first | omega | (simp only [blk_some, hi1_some] at *; omega))
    replace hE := hE.step hoA (by first | omega | (simp only [blk_some, hi1_some] at *; omega))
    replace hb2 := hb2.out hoA (by first | omega | (simp only [blk_some, hi1_some] at *; omega))
    replace hlp0 := hlp0.step hoA (by first | omega | (simp only [blk_some, hi1_some] at *; omega))
    replace hAr := hAr.out hoA (by first | omega | (simp only [blk_some, hi1_some] at *; omega))
    replace hGr := hGr.out hoA (by first | omega | (simp only [blk_some, hi1_some] at *; omega))
    have hCR1 := hR0.app (r := (⟨an, cn, (k : Int) :: arcs, bn, dn, 1 :: signs⟩ : Cyc)) hn1 hn2 (by omega) (by omega) (by omega) (by omega) (by omega) (by omega) hoA (Nat.le_refl _) hat
    have hall1 : ∀ r ∈ l ++ [(⟨an, cn, (k : Int) :: arcs, bn, dn, 1 :: signs⟩ : Cyc)], CyOk N r.arcs r.signs ∧ r.arcs.length ≤ r.c := fun r hr => by
      rcases List.mem_append.1 hr with h | h
      · exact hall r h
      · rw [List.mem_singleton.1 h]; exact ⟨hcy, hcap⟩
    refine st (asS rfl) ?_
    refine rg_end ?_
    refine n_blk ?_
    refine n_then ?_
    refine rg ?_
    refine st (mvI rfl) ?_
    refine st (y_add rfl rfl (by omega)) ?_
    refine st (asI rfl) ?_
    refine rg_end ?_
    exact n_then ⟨(k + 1, _, _, _), _, rfl, same_lk rfl (same_h0), ⟨rfl, rfl, trivial⟩, ⟨hlp0, by omega, by first | omega | (simp; omega), hall1, hO.wide (by omega), hCR1.wide (by omega)⟩, by first | omega | (dsimp only; omega)⟩
  ·
   try simp only [nm] at hc1
   refine wp_exit ?_
   refine e_then (e_then (e_blk (?_)))
   refine n_then ?_
   refine wp_seq ?_
   refine rg ?_
   refine st (mvS rfl) ?_
   refine st (asS rfl) ?_
   refine st (asI rfl) ?_
   refine rg_end ?_
   refine n_then ?_
   refine wp_ret ?_
   refine ret2 (v := (.slice _ _ _)) (v' := (.int .i64 _)) Try.results26 rfl rfl ?_
   exact ⟨ao, co, l, 0, rfl, ⟨Sl.wide (Ow.sl hO) (by omega) (by omega), fun r hr => by
     obtain ⟨l1, h1, l2, h2, a1, a2, a3, a4, a5, a6, a7, a8⟩ := hCR.row r hr
     exact ⟨Sl.wide a1 (by omega) (by omega), Sl.wide a2 (by omega) (by omega)⟩⟩, hall, by omega, hE⟩

def trN : Net := ⟨10, List.replicate 3 ⟨0, 0, 0⟩, [⟨0, 0, 1, 1, 3, 0⟩, ⟨0, 1, 2, 1, 3, 0⟩, ⟨0, 0, 2, 1, 3, 0⟩]⟩
theorem tri_ok : FoOk trN [1, 2] := by
  refine ⟨netOk_iff.1 (by kernel_rfl), ⟨fun q hq => ?_, fun q hq => ?_, fun q hq => ?_⟩, fun i hi => ?_⟩
  · match q, hq with
    | 0, _ => decide
    | 1, _ => decide
  · match q, hq with
    | 0, _ => decide
  · match q, hq with
    | 0, _ => decide
    | 1, _ => decide
  · match i, hi with
    | 0, _ => decide
    | 1, _ => decide
    | 2, _ => decide
theorem tri_no : ¬ FoOk trN [1] := fun h => by
  have h1 := h.span 0 (by decide)
  have h2 : conB (([1] : List Int).map (el trN.acts)) (el trN.acts ((0 : Nat) : Int)).fr (el trN.acts ((0 : Nat) : Int)).tt = false := by kernel_rfl
  rw [h2] at h1; cases h1
end Go.Proofs.Ytclligkngjhihaa
