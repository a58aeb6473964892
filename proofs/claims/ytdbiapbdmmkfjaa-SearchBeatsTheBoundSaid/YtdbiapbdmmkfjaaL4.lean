/-
  Walks of the functions, printed by a program out of the code and the loops' relations.
-/
import Derived.Test.YtdbiapbdmmkfjaaWkG
import Derived.Test.YtdbiapbdmmkfjaaProg
import Derived.KernelRfl
import Derived.Test.YtdbiapbdmmkfjaaL3
namespace Go.Proofs.Ytdbiapbdmmkfjaa
open Go.Wk Go.RowKit
set_option linter.unusedVariables false
set_option linter.unusedSimpArgs false
theorem bld89_0_1 (d0_0 : Option Addr) (l0_0 : Nat) (c0_0 : Nat) (d0_1 : Option Addr) (l0_1 : Nat) (c0_1 : Nat) (a1 : Int) (w : World) : (Instr.build 89 [(0, (.agg #[(.slice d0_0 l0_0 c0_0), (.slice d0_1 l0_1 c0_1)])), (1, (.int .i64 a1))].toArray).run Try.prog w = .ok (.agg [(.slice d0_0 l0_0 c0_0), (.slice d0_1 l0_1 c0_1), (.int .i64 a1)].toArray) w := by kernel_rfl
theorem bsl51_1 (d0_0_0 : Option Addr) (l0_0_0 : Nat) (c0_0_0 : Nat) (d0_0_1 : Option Addr) (l0_0_1 : Nat) (c0_0_1 : Nat) (a0_1 : Int) (w : World) : (Instr.buildSlice 51 1 [(0, (.agg #[(.slice d0_0_0 l0_0_0 c0_0_0), (.slice d0_0_1 l0_0_1 c0_0_1), (.int .i64 a0_1)]))].toArray).run Try.prog w = .ok (.slice (some ⟨w.heap.size, 0, none⟩) 1 1) (w.alloc (.cells [(.slice d0_0_0 l0_0_0 c0_0_0), (.slice d0_0_1 l0_0_1 c0_0_1), (.int .i64 a0_1)].toArray 89)) := by kernel_rfl
theorem cl30 : Callable Try.prog 30 := ⟨Try.call30⟩
theorem cl31 : Callable Try.prog 31 := ⟨Try.call31⟩
theorem cl32 : Callable Try.prog 32 := ⟨Try.call32⟩
theorem cl51 : Callable Try.prog 51 := ⟨Try.call51⟩
theorem cl53 : Callable Try.prog 53 := ⟨Try.call53⟩
set_option maxRecDepth 100000 in
theorem infoz89 : ∃ i, Try.prog.info? 89 = some i ∧ i.zero = some (.agg #[.slice none 0 0, .slice none 0 0, .int .i64 0]) ∧ i.size = 3 ∧ i.bytes = 56 ∧ (Value.cells (.agg #[.slice none 0 0, .slice none 0 0, .int .i64 0])).size = 3 := ⟨Try.t89, Try.type89, rfl, rfl, rfl, rfl⟩
theorem sl51 : SliceOf Try.prog 51 89 3 := ⟨Try.underlying51, Try.sizeOf89⟩
theorem sz83 : SzOf Try.prog 83 2 := Try.sizeOf83
theorem zer83 : ZeroOf Try.prog 83 (.agg [.slice none 0 0, .slice none 0 0].toArray) := Try.zeroValue83

/-- Part of a bound: a cycle and how often it is taken. -/
structure Prt where
  r : Cyc
  t : Int
  deriving Inhabited
def encPr (p : Prt) : List Value := [.slice p.r.a p.r.arcs.length p.r.c, .slice p.r.b p.r.signs.length p.r.d, .int .i64 p.t]
theorem CyIn.full {lo hi : Nat} {w : World} {ad : Option Addr} {l : List Cyc} (h : CyIn lo hi w ad l) : CyIn 0 w.heap.size w ad l := ⟨h.tb.full (fun _ => by simp [encCy]), fun r hr => ⟨Ints.full (h.row r hr).1, Ints.full (h.row r hr).2⟩⟩
/-- What the slacks cost at the weights that are left. -/
def ldC (N : Net) (x L : List Int) : Nat → Int
  | 0 => 0
  | k + 1 => ldC N x L k + el L (k : Int) * slk N x (el N.acts (k : Int))
theorem ldC_set {N : Net} {x L : List Int} {j t : Int} (j0 : 0 ≤ j) (j1 : j < L.length) : ∀ k : Nat, ldC N x (L.set j.toNat (el L j - t)) k = ldC N x L k - (if j < k then t * slk N x (el N.acts j) else 0)
  | 0 => by simp only [ldC]; rw [if_neg (by omega)]; rfl
  | k + 1 => by
    rw [ldC, ldC, ldC_set j0 j1 k]
    by_cases e : (k : Int) = j
    · rw [e, elSetS j0 j1, if_neg (by omega), if_pos (by omega), Int.sub_mul]; omega
    · rw [elSetN j0 (by omega) e]
      by_cases h : j < k
      · rw [if_pos h, if_pos (by omega)]; omega
      · rw [if_neg h, if_neg (by omega)]; omega
theorem ldC_nn {N : Net} {x L : List Int} (hp : 2 ≤ N.p) (h : ∀ q : Int, 0 ≤ q → q < L.length → 0 ≤ el L q) : ∀ k : Nat, k ≤ L.length → 0 ≤ ldC N x L k
  | 0, _ => Int.le_refl _
  | k + 1, hk => by
    have h1 := ldC_nn (x := x) hp h k (by omega)
    have h2 := Int.mul_nonneg (h (k : Int) (by omega) (by omega)) (slk_rng (N := N) (t := x) (a := el N.acts (k : Int)) hp).1
    rw [ldC]; omega
theorem ldC_wt {N : Net} {x L : List Int} (h : ∀ q : Nat, q < N.acts.length → el L (q : Int) = (el N.acts (q : Int)).wt) : ∀ k : Nat, k ≤ N.acts.length → sumC (fun a => a.wt * a.mn) (N.acts.take k) + ldC N x L k = sumC (fun a => a.wt * durA N x a) (N.acts.take k)
  | 0, _ => by simp [sumC, ldC]
  | k + 1, hk => by
    have ih := ldC_wt (x := x) h k (by omega)
    rw [tkS (by omega), sumC_snoc, sumC_snoc, ldC, ← ih, h k (by omega), dur_slk, Int.mul_add]; omega
structure PkI (N : Net) (s : Int) (L : List Int) (i : Nat) : Prop where
  len : L.length = N.acts.length
  rng : ∀ q : Int, 0 ≤ q → q < N.acts.length → 0 ≤ el L q ∧ el L q ≤ 1048576
  s0 : -(68719476736 * 512) ≤ s
  s1 : s ≤ 68719476736 * 512 + 8388608000000 * (i : Int)
  val : ∀ x : List Int, feas N x = true → s + ldC N x L N.acts.length ≤ sumC (fun a => a.wt * durA N x a) N.acts
theorem PkI.start {N : Net} {L : List Int} (hN : NetOk N) (hl : L.length = N.acts.length) (h : ∀ q : Nat, q < N.acts.length → el L (q : Int) = (el N.acts (q : Int)).wt) : PkI N (sumC (fun a => a.wt * a.mn) N.acts) L 0 := by
  have hb := base_rng hN N.acts.length
  rw [List.take_of_length_le (Nat.le_refl _)] at hb
  refine ⟨hl, fun q q0 q1 => ?_, hb.1, by omega, fun x hx => ?_⟩
  · obtain ⟨j, rfl⟩ := Int.eq_ofNat_of_zero_le q0
    have ok := hN.acs _ (el_mem (l := N.acts) (i := (j : Int)) q0 q1)
    rw [h j (by omega)]; exact ⟨ok.w0, ok.w1⟩
  · have e := ldC_wt (x := x) h N.acts.length (Nat.le_refl _)
    rw [List.take_of_length_le (Nat.le_refl _)] at e
    omega
theorem PkI.mono {N : Net} {s : Int} {L : List Int} {i : Nat} (h : PkI N s L i) : PkI N s L (i + 1) := ⟨h.len, h.rng, h.s0, by have := h.s1; omega, h.val⟩
theorem PkI.fin {N : Net} {s : Int} {L : List Int} {i : Nat} (h : PkI N s L i) (hN : NetOk N) {x : List Int} (hx : feas N x = true) : s ≤ sumC (fun a => a.wt * durA N x a) N.acts := by
  have h1 := h.val x hx
  have h2 := ldC_nn (N := N) (x := x) (L := L) hN.p2 (fun q q0 q1 => (h.rng q q0 (by rw [← h.len]; exact q1)).1) N.acts.length (by rw [h.len]; exact Nat.le_refl _)
  omega
structure SuI (N : Net) (L0 L arcs : List Int) (tm : Int) (k : Nat) : Prop where
  len : L.length = N.acts.length
  rng : ∀ q : Int, 0 ≤ q → q < N.acts.length → 0 ≤ el L q ∧ el L q ≤ 1048576
  val : ∀ x : List Int, ldC N x L N.acts.length = ldC N x L0 N.acts.length - tm * abC N x arcs k
  rest : ∀ q : Nat, k ≤ q → q < arcs.length → tm ≤ el L (el arcs (q : Int))
theorem SuI.start {N : Net} {s : Int} {L arcs : List Int} {tm : Int} {i : Nat} (h : PkI N s L i) (hm : ∀ q : Nat, q < arcs.length → tm ≤ el L (el arcs (q : Int))) : SuI N L L arcs tm 0 := ⟨h.len, h.rng, fun x => by simp [abC], fun q _ hq => hm q hq⟩
theorem SuI.step {N : Net} {L0 L arcs signs : List Int} {tm : Int} {k : Nat} (h : SuI N L0 L arcs tm k) (hc : CyOk N arcs signs) (hk : k < arcs.length) (ht : 0 ≤ tm) : SuI N L0 (L.set (el arcs (k : Int)).toNat (el L (el arcs (k : Int)) - tm)) arcs tm (k + 1) := by
  obtain ⟨r0, r1, _⟩ := hc.a.rng k hk
  have hl := h.len
  refine ⟨by rw [List.length_set]; exact h.len, fun q q0 q1 => ?_, fun x => ?_, fun q q0 q1 => ?_⟩
  · by_cases e : q = el arcs (k : Int)
    · rw [e, elSetS r0 (by omega)]
      have h1 := h.rest k (Nat.le_refl _) hk
      have h2 := h.rng _ r0 r1
      omega
    · rw [elSetN r0 q0 e]; exact h.rng q q0 q1
  · rw [ldC_set r0 (by omega), h.val x, if_pos r1, abC, Int.mul_add]; omega
  · have hd := hc.a.dist k q (by omega) q1
    rw [elSetN r0 (hc.a.rng q q1).1 (fun e => hd e.symm)]
    exact h.rest q (by omega) q1
theorem PkI.step {N : Net} {s : Int} {L0 L arcs signs : List Int} {tm g : Int} {i : Nat} (h : PkI N s L0 i) (hs : SuI N L0 L arcs tm arcs.length) (ht : 0 ≤ tm) (ht1 : tm ≤ 1048576) (g0 : 0 ≤ g) (g1 : g ≤ 8000000) (hg : ∀ x : List Int, feas N x = true → g ≤ abC N x arcs arcs.length) : PkI N (s + tm * g) L (i + 1) := by
  have hp := prodB ht ht1 (b := g) (B := 8000000) (by omega) g1
  have hn := Int.mul_nonneg ht g0
  have h0 := h.s0
  have h1 := h.s1
  refine ⟨hs.len, hs.rng, by omega, by omega, fun x hx => ?_⟩
  have a := h.val x hx
  have b := hs.val x
  have c := Int.mul_le_mul_of_nonneg_left (hg x hx) ht
  omega

set_option maxHeartbeats 4000000 in
set_option maxRecDepth 100000 in
theorem ref13_Pack_ok (N : Net) (A : NetA) (lo hi : Nat) (l : List Cyc) (al : Option Addr) (cl ll hl_ : Nat) (w : World) (hN : NetIn lo hi w N A) (hok : NetOk N) (hC : CyIn ll hl_ w al l) (hall : ∀ r ∈ l, CyOk N r.arcs r.signs ∧ r.arcs.length ≤ r.c) (hln : ((l.length : Nat) : Int) ≤ 512) : Cal Try.prog 32 [netV N A, .slice al l.length cl] w (fun v w' => ∃ ao m co b e, v = .tuple #[.slice ao m co, .int .i64 b, .int .i64 e] ∧ (∀ x : List Int, feas N x = true → e = 0 ∧ b ≤ sumC (fun a => a.wt * durA N x a) N.acts) ∧ Ext w w') := by
  replace hN := hN.full
  replace hC := hC.full
  have hac := hok.ac
  have hp2 := hok.p2
  have hE : Out 0 0 w w := Out.refl _ _ w
  refine enter Try.func32 rfl Try.ntmps32 rfl ?_
  refine wp_seq ?_
  refine rg ?_
  refine sd (d_boxA rfl ?_)
  intro b2 w1 hbb2 hs3 ho2 hb2
  have hz4 := ho2.size
  replace hN := hN.ext ho2
  replace hC := hC.ext ho2
  replace hE := hE.step ho2 (.inl (Nat.le_refl _))
  refine st (asS rfl) ?_
  refine st (asI rfl) ?_
  refine st (asI rfl) ?_
  refine rg_end ?_
  refine n_then ?_
  refine wp_seq ?_
  refine rg ?_
  refine st (y_lbN hb2 agg26 rfl) ?_
  refine sc cl51 (ref13_Base_ok N A _ _ _ hN hok) rfl ?_
  rintro v9 w5 ⟨rfl, ho6⟩
  have hz10 := ho6.size
  replace hN := hN.ext ho6
  replace hC := hC.ext ho6
  replace hE := hE.step ho6 (.inl (Nat.le_refl _))
  replace hb2 := hb2.ext ho6
  refine st (mvT rfl) ?_
  refine st (y_ext rfl rfl) ?_
  refine st (y_ext rfl rfl) ?_
  refine st (asI rfl) ?_
  refine st (asI rfl) ?_
  refine rg_end ?_
  refine n_then ?_
  refine wp_seq ?_
  refine wp_seq ?_
  refine rg ?_
  refine st (mvI rfl) ?_
  refine st (y_neq rfl rfl) ?_
  refine rg_end ?_
  refine n_then ?_
  refine cnd rfl (fun hc0 => absurd ((decide_eq_false (not_not_intro rfl)).symm.trans hc0) (by decide)) (fun hc0 => ?_)
  refine wp_skip ?_
  refine n_then ?_
  refine wp_seq ?_
  refine rg ?_
  refine st (y_fld fld26_2 rfl) ?_
  refine st (y_lb hb2 na24 rfl rfl) ?_
  refine st (y_len Try.underlying24 rfl) ?_
  refine sd (d_make (m := N.acts.length) (lo := w5.heap.size) (enc := encI) (e0 := (0 : Int)) sl22 info3 (fun _ => rfl) rfl rfl rfl (by omega) (by unfold maxLen; omega) (by omega) ?_)
  intro bl w11 hbbl hs13 ho12 hL
  have hz15 := ho12.size
  replace hN := hN.ext ho12
  replace hC := hC.ext ho12
  replace hE := hE.step ho12 (.inl (Nat.le_refl _))
  replace hb2 := hb2.ext ho12
  refine st (asS rfl) ?_
  refine rg_end ?_
  refine n_then ?_
  refine wp_seq ?_
  refine wp_seq ?_
  refine rg ?_
  refine st (mvS rfl) ?_
  refine st (y_len Try.underlying22 rfl) ?_
  refine st (mvI rfl) ?_
  refine rg_end ?_
  refine n_then ?_
  refine wp_block ?_
  refine lp (γ := Nat × List Int) [10, 33, 34, 35, 36, 37, 38, 39, 40, 41, 42, 43, 44, 45] (fun ⟨k, L⟩ => [(33, .int .i64 (k : Int))]) (fun ⟨k, L⟩ w_ => Out bl (bl + 1) w11 w_ ∧ (k : Int) ≤ N.acts.length ∧ L.length = N.acts.length ∧ (∀ q : Nat, q < k → el L (q : Int) = (el N.acts (q : Int)).wt) ∧ Ow 3 encI 1 bl (bl + 1) w_ (some ⟨bl, 0, none⟩) N.acts.length L) (fun ⟨k, L⟩ => N.acts.length - k) (0, List.replicate N.acts.length 0) ⟨rfl, trivial⟩ ⟨Out.refl _ _ _, by simp, by simp, (fun q hq => by omega), hL.lower (by omega)⟩ ?_
  rintro ⟨k, L⟩ hav_ w16 ⟨ho17, hk_, hLl, hfil, hL⟩
  have hlp0 := ho17
  have hz18 := ho17.size
  replace hN := hN.out ho17 (by first | omega | (simp only [blk_some, hi1_some] at *; omega))
  replace hC := hC.out ho17 (by first | omega | (simp only [blk_some, hi1_some] at *; omega))
  replace hE := hE.step ho17 (by first | omega | (simp only [blk_some, hi1_some] at *; omega))
  replace hb2 := hb2.out ho17 (by first | omega | (simp only [blk_some, hi1_some] at *; omega))
  refine wp_seq ?_
  refine rg ?_
  refine st (y_lss rfl rfl) ?_
  refine rg_end ?_
  refine n_then ?_
  refine wp_seq ?_
  refine cnd rfl (fun hc1 => ?_) (fun hc1 => ?_)
  ·
    try simp only [decide_eq_true_eq, decide_eq_false_iff_not, Bool.not_eq_true', Bool.not_eq_false', Bool.and_eq_true, Bool.or_eq_true, Bool.or_eq_false_iff, Bool.cond_true_right, Bool.cond_false_right, Bool.cond_true_left, Bool.cond_false_left, ne_eq, Decidable.not_not, bne_iff_ne, beq_iff_eq, beq_eq_false_iff_ne, Bool.not_true, Bool.not_false] at hc1
    refine wp_skip ?_
    refine n_then ?_
    refine wp_seq ?_
    refine wp_block ?_
    refine wp_seq ?_
    refine rg ?_
    refine st (mvI rfl) ?_
    refine st (asI rfl) ?_
    refine rg_end ?_
    refine n_then ?_
    refine rg ?_
    refine st (mvS rfl) ?_
    refine st (mvI rfl) ?_
    refine st (y_fld fld26_2 rfl) ?_
    refine st (y_lb hb2 na24 rfl rfl) ?_
    refine st (mvI rfl) ?_
    refine st (y_ix hN.a sl24 rfl (rfl) rfl (by omega) (by omega)) ?_
    refine st (y_fld fld62_5 rfl) ?_
    refine st (y_lf hN.a na3 rfl (by omega) (by omega) rfl) ?_
    refine st (y_ix hL.sl sl22 rfl (hLl.symm) rfl (by omega) (by omega)) ?_
    refine sd0 (d_se (j := 0) (e' := (el N.acts (k : Int)).wt) hL sz3 rfl rfl rfl (by omega) (by omega) (Nat.le_of_ble_eq_true rfl) rfl ?_)
    intro w19 hs21 ho20 hL'
    have hrhL := hL.rng
    clear hL; have hL := hL'; clear hL'
    have hz22 := ho20.size
    replace hN := hN.out ho20 (by first | omega | (simp only [blk_some, hi1_some] at *; omega))
    replace hC := hC.out ho20 (by first | omega | (simp only [blk_some, hi1_some] at *; omega))
    replace hE := hE.step ho20 (by first | omega | (simp only [blk_some, hi1_some] at *; omega))
    replace hb2 := hb2.out ho20 (by first | omega | (simp only [blk_some, hi1_some] at *; omega))
    replace hlp0 := hlp0.step ho20 (by first | omega | (simp only [blk_some, hi1_some] at *; omega))
    have hfil1 : ∀ q : Nat, q < k + 1 → el (L.set (k : Int).toNat (el N.acts (k : Int)).wt) (q : Int) = (el N.acts (q : Int)).wt := fun q hq => by
      by_cases e : q = k
      · subst e; rw [elSetS (by omega) (by omega)]
      · rw [elSetN (by omega) (by omega) (by omega)]; exact hfil q (by omega)
    refine rg_end ?_
    refine n_blk ?_
    refine n_then ?_
    refine rg ?_
    refine st (y_add rfl rfl (by omega)) ?_
    refine st (mvI rfl) ?_
    refine rg_end ?_
    exact n_then ⟨(k + 1, _), _, rfl, same_lk rfl (same_h0), ⟨rfl, trivial⟩, ⟨hlp0, by omega, by simp [hLl], hfil1, hL⟩, by first | omega | (dsimp only; omega)⟩
  ·
    try simp only [decide_eq_true_eq, decide_eq_false_iff_not, Bool.not_eq_true', Bool.not_eq_false', Bool.and_eq_true, Bool.or_eq_true, Bool.or_eq_false_iff, Bool.cond_true_right, Bool.cond_false_right, Bool.cond_true_left, Bool.cond_false_left, ne_eq, Decidable.not_not, bne_iff_ne, beq_iff_eq, beq_eq_false_iff_ne, Bool.not_true, Bool.not_false] at hc1
    have hpk0 := PkI.start hok hLl (fun q hq => hfil q (by omega))
    refine wp_exit ?_
    refine e_then (e_then (e_blk (?_)))
    refine n_then ?_
    refine wp_seq ?_
    refine rg ?_
    refine st (asS rfl) ?_
    refine rg_end ?_
    refine n_then ?_
    refine wp_seq ?_
    refine wp_seq ?_
    refine rg ?_
    refine st (asI rfl) ?_
    refine rg_end ?_
    refine n_then ?_
    refine wp_block ?_
    obtain ⟨z1, hz1⟩ : ∃ z, z = w16.heap.size := ⟨_, rfl⟩
    refine lp (γ := Nat × Int × List Int × List Prt × Option Addr × Nat) [4, 5, 6, 7, 11, 12, 13, 14, 15, 16, 17, 18, 46, 47, 48, 49, 50, 51, 52, 53, 54, 55, 56, 57, 58, 59, 60, 61, 62, 63, 64, 65, 66, 67, 68, 69, 70, 71, 72, 73, 74, 75, 76, 77, 78, 79, 80, 81, 82, 83, 84, 85, 86, 87, 88, 89, 90, 91, 92, 93, 94, 95, 96, 97, 98, 99, 100, 101, 102, 103, 104, 105, 106, 107, 108, 109, 110, 111, 112, 113, 114, 115, 116, 117, 118, 119, 120, 121, 122, 123, 124, 125, 126, 127, 128, 129, 130, 131, 132, 133, 134, 135, 136, 137, 138, 139, 140, 141, 142, 143, 144, 145, 146, 147, 148, 149, 150, 151, 152, 153, 154, 155, 156] (fun ⟨i, s, L, ps, ao, co⟩ => [(12, .int .i64 (i : Int)), (7, .int .i64 s), (11, .slice ao ps.length co)]) (fun ⟨i, s, L, ps, ao, co⟩ w_ => Out bl (bl + 1) w16 w_ ∧ (i : Int) ≤ l.length ∧ PkI N s L i ∧ ((ps.length : Nat) : Int) ≤ i ∧ Ow 3 encI 1 bl (bl + 1) w_ (some ⟨bl, 0, none⟩) N.acts.length L ∧ Ow 89 encPr 3 z1 w_.heap.size w_ ao co ps) (fun ⟨i, s, L, ps, ao, co⟩ => l.length - i) (0, _, L, [], none, 0) ⟨rfl, rfl, rfl, trivial⟩ ⟨Out.refl _ _ _, by simp, hpk0, by simp, hL, Ow.nil (fun _ => rfl)⟩ ?_
    rintro ⟨i, s, L, ps, ao, co⟩ hav_ w23 ⟨ho24, hi_, hpk, hpl, hL, hO⟩
    have hlp1 := ho24
    have hz25 := ho24.size
    replace hN := hN.out ho24 (by first | omega | (simp only [blk_some, hi1_some] at *; omega))
    replace hC := hC.out ho24 (by first | omega | (simp only [blk_some, hi1_some] at *; omega))
    replace hE := hE.step ho24 (by first | omega | (simp only [blk_some, hi1_some] at *; omega))
    replace hb2 := hb2.out ho24 (by first | omega | (simp only [blk_some, hi1_some] at *; omega))
    refine wp_seq ?_
    refine wp_seq ?_
    refine rg ?_
    refine st (mvI rfl) ?_
    refine st (mvS rfl) ?_
    refine st (y_len Try.underlying47 rfl) ?_
    refine st (y_lss rfl rfl) ?_
    refine rg_end ?_
    refine n_then ?_
    refine cnd rfl (fun hc2 => ?_) (fun hc2 => ?_)
    ·
      try simp only [decide_eq_true_eq, decide_eq_false_iff_not, Bool.not_eq_true', Bool.not_eq_false', Bool.and_eq_true, Bool.or_eq_true, Bool.or_eq_false_iff, Bool.cond_true_right, Bool.cond_false_right, Bool.cond_true_left, Bool.cond_false_left, ne_eq, Decidable.not_not, bne_iff_ne, beq_iff_eq, beq_eq_false_iff_ne, Bool.not_true, Bool.not_false] at hc2
      have hmj := el_mem (l := l) (i := (i : Int)) (by omega) (by omega)
      have hA_ := (hC.row _ hmj).1
      have hS_ := (hC.row _ hmj).2
      obtain ⟨hcy, hcap⟩ := hall _ hmj
      have hcl := cy_len hcy
      have htwo := hcy.two
      have hr0 : 0 ≤ el (el l (i : Int)).arcs 0 ∧ el (el l (i : Int)).arcs 0 < N.acts.length := ⟨(hcy.a.rng 0 (by omega)).1, (hcy.a.rng 0 (by omega)).2.1⟩
      have hLl := hpk.len
      have hv0 := hpk.rng _ hr0.1 hr0.2
      refine wp_skip ?_
      refine n_then ?_
      refine wp_seq ?_
      refine wp_block ?_
      refine wp_seq ?_
      refine wp_seq ?_
      refine rgD 5 (fun w_ => Ext w23 w_) (fun i => false) mixed (by kernel_rfl) ?_
      intro w26 ho27 hs28
      refine ⟨ho27, ?_⟩
      have hx29 := ho27
      refine tn rfl (fun _ hG => y_lbN (hb2.ext hG) agg26 rfl) ?_
      refine tn rfl (fun _ hG => mvS rfl) ?_
      refine tn rfl (fun _ hG => mvI rfl) ?_
      refine tn rfl (fun _ hG => y_ix (hC.tb.ext hG) sl47 rfl (rfl) rfl (by omega) (by omega)) ?_
      refine tn rfl (fun _ hG => y_lw (hC.tb.ext hG) agg83 rfl (by omega) (by omega)) ?_
      refine t_end ?_
      have hz30 := hx29.size
      replace hN := hN.ext hx29
      replace hC := hC.ext hx29
      replace hE := hE.step hx29 (.inl (Nat.le_refl _))
      replace hb2 := hb2.ext hx29
      replace hL := hL.ext hx29
      replace hO := hO.ext hx29
      replace hlp1 := hlp1.step hx29 (.inl (Nat.le_refl _))
      replace hA_ := hA_.ext hx29
      replace hS_ := hS_.ext hx29
      refine sc cl52 (ref11_CheckCycle_ok N A _ _ (el l (i : Int)).arcs (el l (i : Int)).signs _ _ _ _ _ _ _ _ _ hN hA_ hcap hS_ (by omega)) rfl ?_
      rintro v35 w31 ⟨b, rfl, hb, ho32⟩
      have hbt : b = true := hb.2 hcy
      have hz36 := ho32.size
      replace hN := hN.ext ho32
      replace hC := hC.ext ho32
      replace hE := hE.step ho32 (.inl (Nat.le_refl _))
      replace hb2 := hb2.ext ho32
      replace hL := hL.ext ho32
      replace hO := hO.ext ho32
      replace hlp1 := hlp1.step ho32 (.inl (Nat.le_refl _))
      replace hA_ := hA_.ext ho32
      replace hS_ := hS_.ext ho32
      refine st (y_not rfl) ?_
      refine rg_end ?_
      refine n_then ?_
      refine cnd rfl (fun hc3 => absurd ((congrArg Bool.not hbt).symm.trans hc3) (by decide)) (fun hc3 => ?_)
      refine wp_skip ?_
      refine n_then ?_
      refine wp_seq ?_
      refine rgD 10 (fun w_ => Ext w31 w_) (fun i => Nat.beq i 5) mixed (by kernel_rfl) ?_
      intro w37 ho38 hs39
      refine ⟨ho38, ?_⟩
      have hx40 := ho38
      refine tn rfl (fun _ hG => y_lbN (hb2.ext hG) agg26 rfl) ?_
      refine tn rfl (fun _ hG => mvS rfl) ?_
      refine tn rfl (fun _ hG => mvI rfl) ?_
      refine tn rfl (fun _ hG => y_ix (hC.tb.ext hG) sl47 rfl (rfl) rfl (by omega) (by omega)) ?_
      refine tn rfl (fun _ hG => y_lw (hC.tb.ext hG) agg83 rfl (by omega) (by omega)) ?_
      refine tc rfl cl53 (ref13_Gap_ok N A _ _ (el l (i : Int)).arcs (el l (i : Int)).signs _ _ _ _ _ _ _ _ _ (hN.ext hx40) (hA_.ext hx40) hcap (hS_.ext hx40) (by omega)) rfl ?_
      rintro v45 w41 ⟨g, ok, rfl, hg1, hg2, ho42⟩
      have hx46 := hx40.step ho42 (.inl (Nat.le_refl _))
      have hz47 := ho42.size
      refine ⟨hx46, ?_⟩
      refine tn rfl (fun _ hG => mvT rfl) ?_
      refine tn rfl (fun _ hG => y_ext rfl rfl) ?_
      refine tn rfl (fun _ hG => y_ext rfl rfl) ?_
      refine tn rfl (fun _ hG => asI rfl) ?_
      refine t_end ?_
      have hz48 := hx46.size
      replace hN := hN.ext hx46
      replace hC := hC.ext hx46
      replace hE := hE.step hx46 (.inl (Nat.le_refl _))
      replace hb2 := hb2.ext hx46
      replace hL := hL.ext hx46
      replace hO := hO.ext hx46
      replace hlp1 := hlp1.step hx46 (.inl (Nat.le_refl _))
      replace hA_ := hA_.ext hx46
      replace hS_ := hS_.ext hx46
      refine st (asB rfl) ?_
      refine rg_end ?_
      refine n_then ?_
      refine wp_seq ?_
      refine wp_seq ?_
      refine rg ?_
      refine st (mvB rfl) ?_
      refine st (y_not rfl) ?_
      refine rg_end ?_
      refine n_then ?_
      refine cnd rfl (fun hc4 => ?_) (fun hc4 => ?_)
      ·
        try simp only [decide_eq_true_eq, decide_eq_false_iff_not, Bool.not_eq_true', Bool.not_eq_false', Bool.and_eq_true, Bool.or_eq_true, Bool.or_eq_false_iff, Bool.cond_true_right, Bool.cond_false_right, Bool.cond_true_left, Bool.cond_false_left, ne_eq, Decidable.not_not, bne_iff_ne, beq_iff_eq, beq_eq_false_iff_ne, Bool.not_true, Bool.not_false] at hc4
        have hno : ∀ x : List Int, feas N x = true → False := fun x hx => by
          have := (hg2 hcy x hx).1
          rw [hc4] at this; cases this
        refine wp_seq ?_
        refine rg ?_
        refine st (asS rfl) ?_
        refine st (asI rfl) ?_
        refine st (asI rfl) ?_
        refine rg_end ?_
        refine n_then ?_
        refine wp_ret ?_
        refine r_then (r_blk (r_then (r_then (r_blk (r_then (ret3 (v := (.slice _ _ _)) (v' := (.int .i64 _)) (v'' := (.int .i64 _)) Try.results32 rfl rfl rfl ?_))))))
        exact ⟨none, 0, 0, 0, 14, rfl, fun x hx => (hno x hx).elim, hE⟩
      ·
        try simp only [decide_eq_true_eq, decide_eq_false_iff_not, Bool.not_eq_true', Bool.not_eq_false', Bool.and_eq_true, Bool.or_eq_true, Bool.or_eq_false_iff, Bool.cond_true_right, Bool.cond_false_right, Bool.cond_true_left, Bool.cond_false_left, ne_eq, Decidable.not_not, bne_iff_ne, beq_iff_eq, beq_eq_false_iff_ne, Bool.not_true, Bool.not_false] at hc4
        obtain ⟨_, g0, g1⟩ := hg1 hc4
        refine wp_skip ?_
        refine n_then ?_
        refine wp_seq ?_
        refine rg ?_
        refine st (mvS rfl) ?_
        refine st (mvS rfl) ?_
        refine st (mvI rfl) ?_
        refine st (y_ix hC.tb sl47 rfl (rfl) rfl (by omega) (by omega)) ?_
        refine st (y_fld fld83_0 rfl) ?_
        refine st (y_lf hC.tb na22 rfl (by omega) (by omega) rfl) ?_
        refine st (y_ix hA_ sl22 rfl (rfl) rfl (by omega) (by omega)) ?_
        refine st (y_le hA_ na3 rfl (by omega) (by omega) rfl) ?_
        refine st (y_ix hL.sl sl22 rfl (hpk.len.symm) rfl (by omega) (by omega)) ?_
        refine st (y_le hL.sl na3 rfl (by omega) (by omega) rfl) ?_
        refine st (asI rfl) ?_
        refine rg_end ?_
        refine n_then ?_
        refine wp_seq ?_
        refine wp_seq ?_
        refine rg ?_
        refine st (asI rfl) ?_
        refine rg_end ?_
        refine n_then ?_
        refine wp_block ?_
        refine lp (γ := Nat × Int) [15, 16, 80, 81, 82, 83, 84, 85, 86, 87, 88, 89, 90, 91, 92, 93, 94, 95, 96, 97, 98, 99, 100, 101, 102] (fun ⟨k, tm⟩ => [(16, .int .i64 (k : Int)), (15, .int .i64 tm)]) (fun ⟨k, tm⟩ w_ => Ext w41 w_ ∧ (k : Int) ≤ (el l (i : Int)).arcs.length ∧ (∀ q : Nat, q < k → tm ≤ el L (el (el l (i : Int)).arcs (q : Int))) ∧ 0 ≤ tm ∧ tm ≤ 1048576) (fun ⟨k, tm⟩ => (el l (i : Int)).arcs.length - k) (0, el L (el (el l (i : Int)).arcs 0)) ⟨rfl, rfl, trivial⟩ ⟨Out.refl _ _ _, by simp, (fun q hq => by omega), hv0.1, hv0.2⟩ ?_
        rintro ⟨k, tm⟩ hav_ w49 ⟨ho50, hk_, hmin, tm0, tm1⟩
        have hlp2 := ho50
        have hz51 := ho50.size
        replace hN := hN.ext ho50
        replace hC := hC.ext ho50
        replace hE := hE.step ho50 (.inl (Nat.le_refl _))
        replace hb2 := hb2.ext ho50
        replace hL := hL.ext ho50
        replace hO := hO.ext ho50
        replace hlp1 := hlp1.step ho50 (.inl (Nat.le_refl _))
        replace hA_ := hA_.ext ho50
        replace hS_ := hS_.ext ho50
        refine wp_seq ?_
        refine wp_seq ?_
        refine rg ?_
        refine st (mvI rfl) ?_
        refine st (mvS rfl) ?_
        refine st (mvI rfl) ?_
        refine st (y_ix hC.tb sl47 rfl (rfl) rfl (by omega) (by omega)) ?_
        refine st (y_fld fld83_0 rfl) ?_
        refine st (y_lf hC.tb na22 rfl (by omega) (by omega) rfl) ?_
        refine st (y_len Try.underlying22 rfl) ?_
        refine st (y_lss rfl rfl) ?_
        refine rg_end ?_
        refine n_then ?_
        refine cnd rfl (fun hc5 => ?_) (fun hc5 => ?_)
        ·
          try simp only [decide_eq_true_eq, decide_eq_false_iff_not, Bool.not_eq_true', Bool.not_eq_false', Bool.and_eq_true, Bool.or_eq_true, Bool.or_eq_false_iff, Bool.cond_true_right, Bool.cond_false_right, Bool.cond_true_left, Bool.cond_false_left, ne_eq, Decidable.not_not, bne_iff_ne, beq_iff_eq, beq_eq_false_iff_ne, Bool.not_true, Bool.not_false] at hc5
          have hrk := hcy.a.rng k (by omega)
          have hvk := hpk.rng _ hrk.1 hrk.2.1
          have hmin1 : ∀ q : Nat, q < k + 1 → min tm (el L (el (el l (i : Int)).arcs (k : Int))) ≤ el L (el (el l (i : Int)).arcs (q : Int)) := fun q hq => by
            by_cases e : q = k
            · subst e; exact Int.min_le_right _ _
            · exact Int.le_trans (Int.min_le_left _ _) (hmin q (by omega))
          refine wp_skip ?_
          refine n_then ?_
          refine wp_seq ?_
          refine wp_block ?_
          refine rg ?_
          refine st (mvI rfl) ?_
          refine st (mvS rfl) ?_
          refine st (mvS rfl) ?_
          refine st (mvI rfl) ?_
          refine st (y_ix hC.tb sl47 rfl (rfl) rfl (by omega) (by omega)) ?_
          refine st (y_fld fld83_0 rfl) ?_
          refine st (y_lf hC.tb na22 rfl (by omega) (by omega) rfl) ?_
          refine st (mvI rfl) ?_
          refine st (y_ix hA_ sl22 rfl (rfl) rfl (by omega) (by omega)) ?_
          refine st (y_le hA_ na3 rfl (by omega) (by omega) rfl) ?_
          refine st (y_ix hL.sl sl22 rfl (hpk.len.symm) rfl (by omega) (by omega)) ?_
          refine st (y_le hL.sl na3 rfl (by omega) (by omega) rfl) ?_
          refine st (y_min rfl rfl) ?_
          refine st (asI rfl) ?_
          refine rg_end ?_
          refine n_blk ?_
          refine n_then ?_
          refine rg ?_
          refine st (mvI rfl) ?_
          refine st (y_add rfl rfl (by omega)) ?_
          refine st (asI rfl) ?_
          refine rg_end ?_
          exact n_then ⟨(k + 1, _), _, rfl, same_lk rfl (same_h0), ⟨rfl, rfl, trivial⟩, ⟨hlp2, by omega, hmin1, by omega, by omega⟩, by first | omega | (dsimp only; omega)⟩
        ·
          try simp only [decide_eq_true_eq, decide_eq_false_iff_not, Bool.not_eq_true', Bool.not_eq_false', Bool.and_eq_true, Bool.or_eq_true, Bool.or_eq_false_iff, Bool.cond_true_right, Bool.cond_false_right, Bool.cond_true_left, Bool.cond_false_left, ne_eq, Decidable.not_not, bne_iff_ne, beq_iff_eq, beq_eq_false_iff_ne, Bool.not_true, Bool.not_false] at hc5
          have hsu0 := SuI.start (arcs := (el l (i : Int)).arcs) hpk (fun q hq => hmin q (by omega))
          refine wp_exit ?_
          refine e_then (e_then (e_blk (?_)))
          refine n_then ?_
          refine wp_seq ?_
          refine wp_seq ?_
          refine rg ?_
          refine st (mvI rfl) ?_
          refine st (y_lss rfl rfl) ?_
          refine st (mvB rfl) ?_
          refine gspL 105 rfl (fun hg52 => ?_) (fun hg52 => ?_)
          ·
            have hg52n := hg52; try simp only [decide_eq_true_eq, decide_eq_false_iff_not, Bool.not_eq_true', Bool.not_eq_false', Bool.and_eq_true, Bool.or_eq_true, Bool.or_eq_false_iff, Bool.cond_true_right, Bool.cond_false_right, Bool.cond_true_left, Bool.cond_false_left, ne_eq, Decidable.not_not, bne_iff_ne, beq_iff_eq, beq_eq_false_iff_ne, Bool.not_true, Bool.not_false] at hg52n
            refine sts rfl rfl hg52 ?_
            refine sts rfl rfl hg52 ?_
            refine st (y_pickT rfl hg52 (v := .bool _) rfl) ?_
            refine rg_end ?_
            refine n_then ?_
            refine cnd rfl (fun hc6 => ?_) (fun hc6 => absurd hc6 (by decide))
            have hpk1 := hpk.mono
            refine wp_exit ?_
            refine e_then (e_blk (?_))
            refine n_then ?_
            refine rg ?_
            refine st (mvI rfl) ?_
            refine st (y_add rfl rfl (by omega)) ?_
            refine st (asI rfl) ?_
            refine rg_end ?_
            exact n_then ⟨(i + 1, _, _, _, _, _), _, rfl, same_lk rfl (same_hav rfl (same_lk rfl (same_h0))), ⟨rfl, rfl, rfl, trivial⟩, ⟨hlp1, by omega, hpk1, by first | omega | (simp; omega), hL, hO.wide (by omega)⟩, by first | omega | (dsimp only; omega)⟩
          ·
            have hg52n := hg52; try simp only [decide_eq_true_eq, decide_eq_false_iff_not, Bool.not_eq_true', Bool.not_eq_false', Bool.and_eq_true, Bool.or_eq_true, Bool.or_eq_false_iff, Bool.cond_true_right, Bool.cond_false_right, Bool.cond_true_left, Bool.cond_false_left, ne_eq, Decidable.not_not, bne_iff_ne, beq_iff_eq, beq_eq_false_iff_ne, Bool.not_true, Bool.not_false] at hg52n
            refine stg rfl rfl hg52 (mvI rfl) ?_
            refine stg rfl rfl hg52 (y_lss rfl rfl) ?_
            refine st (y_pickF rfl hg52 (v := .bool _) rfl) ?_
            refine rg_end ?_
            refine n_then ?_
            refine cnd rfl (fun hc6 => ?_) (fun hc6 => ?_)
            ·
              try simp only [decide_eq_true_eq, decide_eq_false_iff_not, Bool.not_eq_true', Bool.not_eq_false', Bool.and_eq_true, Bool.or_eq_true, Bool.or_eq_false_iff, Bool.cond_true_right, Bool.cond_false_right, Bool.cond_true_left, Bool.cond_false_left, ne_eq, Decidable.not_not, bne_iff_ne, beq_iff_eq, beq_eq_false_iff_ne, Bool.not_true, Bool.not_false] at hc6
              have hpk1 := hpk.mono
              refine wp_exit ?_
              refine e_then (e_blk (?_))
              refine n_then ?_
              refine rg ?_
              refine st (mvI rfl) ?_
              refine st (y_add rfl rfl (by omega)) ?_
              refine st (asI rfl) ?_
              refine rg_end ?_
              exact n_then ⟨(i + 1, _, _, _, _, _), _, rfl, same_lk rfl (same_hav rfl (same_lk rfl (same_h0))), ⟨rfl, rfl, rfl, trivial⟩, ⟨hlp1, by omega, hpk1, by first | omega | (simp; omega), hL, hO.wide (by omega)⟩, by first | omega | (dsimp only; omega)⟩
            ·
              try simp only [decide_eq_true_eq, decide_eq_false_iff_not, Bool.not_eq_true', Bool.not_eq_false', Bool.and_eq_true, Bool.or_eq_true, Bool.or_eq_false_iff, Bool.cond_true_right, Bool.cond_false_right, Bool.cond_true_left, Bool.cond_false_left, ne_eq, Decidable.not_not, bne_iff_ne, beq_iff_eq, beq_eq_false_iff_ne, Bool.not_true, Bool.not_false] at hc6
              have ht1 : 1 ≤ tm := by omega
              refine wp_skip ?_
              refine n_then ?_
              refine wp_seq ?_
              refine wp_seq ?_
              refine rg ?_
              refine st (asI rfl) ?_
              refine rg_end ?_
              refine n_then ?_
              refine wp_block ?_
              refine lp (γ := Nat × List Int) [17, 109, 110, 111, 112, 113, 114, 115, 116, 117, 118, 119, 120, 121, 122, 123, 124, 125, 126, 127, 128, 129, 130, 131, 132] (fun ⟨k, L2⟩ => [(17, .int .i64 (k : Int))]) (fun ⟨k, L2⟩ w_ => Out bl (bl + 1) w49 w_ ∧ (k : Int) ≤ (el l (i : Int)).arcs.length ∧ SuI N L L2 (el l (i : Int)).arcs tm k ∧ Ow 3 encI 1 bl (bl + 1) w_ (some ⟨bl, 0, none⟩) N.acts.length L2) (fun ⟨k, L2⟩ => (el l (i : Int)).arcs.length - k) (0, L) ⟨rfl, trivial⟩ ⟨Out.refl _ _ _, by simp, hsu0, hL⟩ ?_
              rintro ⟨k, L2⟩ hav_ w53 ⟨ho54, hk2_, hsu, hL⟩
              have hlp3 := ho54
              have hz55 := ho54.size
              replace hN := hN.out ho54 (by first | omega | (simp only [blk_some, hi1_some] at *; omega))
              replace hC := hC.out ho54 (by first | omega | (simp only [blk_some, hi1_some] at *; omega))
              replace hE := hE.step ho54 (by first | omega | (simp only [blk_some, hi1_some] at *; omega))
              replace hb2 := hb2.out ho54 (by first | omega | (simp only [blk_some, hi1_some] at *; omega))
              have hrnhO := hO.rng
              replace hO := hO.out ho54 (by first | omega | (simp only [blk_some, hi1_some] at *; omega))
              replace hlp1 := hlp1.step ho54 (by first | omega | (simp only [blk_some, hi1_some] at *; omega))
              replace hA_ := hA_.out ho54 (by first | omega | (simp only [blk_some, hi1_some] at *; omega))
              replace hS_ := hS_.out ho54 (by first | omega | (simp only [blk_some, hi1_some] at *; omega))
              refine wp_seq ?_
              refine wp_seq ?_
              refine rg ?_
              refine st (mvI rfl) ?_
              refine st (mvS rfl) ?_
              refine st (mvI rfl) ?_
              refine st (y_ix hC.tb sl47 rfl (rfl) rfl (by omega) (by omega)) ?_
              refine st (y_fld fld83_0 rfl) ?_
              refine st (y_lf hC.tb na22 rfl (by omega) (by omega) rfl) ?_
              refine st (y_len Try.underlying22 rfl) ?_
              refine st (y_lss rfl rfl) ?_
              refine rg_end ?_
              refine n_then ?_
              refine cnd rfl (fun hc7 => ?_) (fun hc7 => ?_)
              ·
                try simp only [decide_eq_true_eq, decide_eq_false_iff_not, Bool.not_eq_true', Bool.not_eq_false', Bool.and_eq_true, Bool.or_eq_true, Bool.or_eq_false_iff, Bool.cond_true_right, Bool.cond_false_right, Bool.cond_true_left, Bool.cond_false_left, ne_eq, Decidable.not_not, bne_iff_ne, beq_iff_eq, beq_eq_false_iff_ne, Bool.not_true, Bool.not_false] at hc7
                have hrk := hcy.a.rng k (by omega)
                have hLl2 := hsu.len
                have hvk := hsu.rng _ hrk.1 hrk.2.1
                have hsu1 := hsu.step hcy (by omega) (by omega)
                refine wp_skip ?_
                refine n_then ?_
                refine wp_seq ?_
                refine wp_block ?_
                refine rg ?_
                refine st (mvS rfl) ?_
                refine st (mvS rfl) ?_
                refine st (mvI rfl) ?_
                refine st (y_ix hC.tb sl47 rfl (rfl) rfl (by omega) (by omega)) ?_
                refine st (y_fld fld83_0 rfl) ?_
                refine st (y_lf hC.tb na22 rfl (by omega) (by omega) rfl) ?_
                refine st (mvI rfl) ?_
                refine st (y_ix hA_ sl22 rfl (rfl) rfl (by omega) (by omega)) ?_
                refine st (y_le hA_ na3 rfl (by omega) (by omega) rfl) ?_
                refine st (y_ix hL.sl sl22 rfl (hsu.len.symm) rfl (by omega) (by omega)) ?_
                refine st (y_le hL.sl na3 rfl (by omega) (by omega) rfl) ?_
                refine st (mvI rfl) ?_
                refine st (y_sub rfl rfl (by omega)) ?_
                refine st (y_ix hL.sl sl22 rfl (hsu.len.symm) rfl (by omega) (by omega)) ?_
                refine sd0 (d_se (j := 0) (e' := (el L2 (el (el l (i : Int)).arcs (k : Int)) - tm)) hL sz3 rfl rfl rfl (by omega) (by omega) (Nat.le_of_ble_eq_true rfl) rfl ?_)
                intro w56 hs58 ho57 hL'
                have hrhL := hL.rng
                clear hL; have hL := hL'; clear hL'
                have hz59 := ho57.size
                replace hN := hN.out ho57 (by first | omega | (simp only [blk_some, hi1_some] at *; omega))
                replace hC := hC.out ho57 (by first | omega | (simp only [blk_some, hi1_some] at *; omega))
                replace hE := hE.step ho57 (by first | omega | (simp only [blk_some, hi1_some] at *; omega))
                replace hb2 := hb2.out ho57 (by first | omega | (simp only [blk_some, hi1_some] at *; omega))
                replace hO := hO.out ho57 (by first | omega | (simp only [blk_some, hi1_some] at *; omega))
                replace hlp1 := hlp1.step ho57 (by first | omega | (simp only [blk_some, hi1_some] at *; omega))
                replace hA_ := hA_.out ho57 (by first | omega | (simp only [blk_some, hi1_some] at *; omega))
                replace hS_ := hS_.out ho57 (by first | omega | (simp only [blk_some, hi1_some] at *; omega))
                replace hlp3 := hlp3.step ho57 (by first | omega | (simp only [blk_some, hi1_some] at *; omega))
                refine rg_end ?_
                refine n_blk ?_
                refine n_then ?_
                refine rg ?_
                refine st (mvI rfl) ?_
                refine st (y_add rfl rfl (by omega)) ?_
                refine st (asI rfl) ?_
                refine rg_end ?_
                exact n_then ⟨(k + 1, _), _, rfl, same_lk rfl (same_h0), ⟨rfl, trivial⟩, ⟨hlp3, by omega, hsu1, hL⟩, by first | omega | (dsimp only; omega)⟩
              ·
                try simp only [decide_eq_true_eq, decide_eq_false_iff_not, Bool.not_eq_true', Bool.not_eq_false', Bool.and_eq_true, Bool.or_eq_true, Bool.or_eq_false_iff, Bool.cond_true_right, Bool.cond_false_right, Bool.cond_true_left, Bool.cond_false_left, ne_eq, Decidable.not_not, bne_iff_ne, beq_iff_eq, beq_eq_false_iff_ne, Bool.not_true, Bool.not_false] at hc7
                have hke : k = (el l (i : Int)).arcs.length := by omega
                subst hke
                have hpk1 := hpk.step (signs := (el l (i : Int)).signs) hsu (by omega) (by omega) g0 g1 (fun x hx => (hg2 hcy x hx).2)
                have hq0 := hpk1.s0
                have hq1 := hpk1.s1
                have hq2 := prodB (by omega) tm1 (b := g) (B := 8000000) (by omega) g1
                refine wp_exit ?_
                refine e_then (e_then (e_blk (?_)))
                refine n_then ?_
                refine wp_seq ?_
                refine rgP 14 (fun w_ => Ext w53 w_) (fun i => Nat.beq i 5 || Nat.beq i 11 || Nat.beq i 13) (.step 0 (.step 1 (.step 2 (.step 3 (.step 4 (.step 6 (.step 7 (.step 8 (.step 9 (.step 10 (.fork 5 (.fork 11 (.step 12 (.step 13 (.done))) (.fork 13 (.step 11 (.step 12 (.done))) (.last))) (.fork 13 (.step 5 (.step 11 (.step 12 (.done)))) (.last))))))))))))) mixed (by kernel_rfl) ?_
                intro w60 ho61 hs62
                refine ⟨ho61, ?_⟩
                have hx63 := ho61
                refine p_step rfl ?_
                refine tn rfl (fun _ hG => mvS rfl) ?_
                refine t_end ?_
                refine p_step rfl ?_
                refine tn rfl (fun _ hG => mvI rfl) ?_
                refine t_end ?_
                refine p_step rfl ?_
                refine tn rfl (fun _ hG => y_ix (hC.tb.ext hG) sl47 rfl (rfl) rfl (by omega) (by omega)) ?_
                refine t_end ?_
                refine p_step rfl ?_
                refine tn rfl (fun _ hG => y_fld fld83_0 rfl) ?_
                refine t_end ?_
                refine p_step rfl ?_
                refine tn rfl (fun _ hG => y_lf (hC.tb.ext hG) na22 rfl (by omega) (by omega) rfl) ?_
                refine t_end ?_
                refine p_step rfl ?_
                refine tn rfl (fun _ hG => mvS rfl) ?_
                refine t_end ?_
                refine p_step rfl ?_
                refine tn rfl (fun _ hG => mvI rfl) ?_
                refine t_end ?_
                refine p_step rfl ?_
                refine tn rfl (fun _ hG => y_ix (hC.tb.ext hG) sl47 rfl (rfl) rfl (by omega) (by omega)) ?_
                refine t_end ?_
                refine p_step rfl ?_
                refine tn rfl (fun _ hG => y_fld fld83_1 rfl) ?_
                refine t_end ?_
                refine p_step rfl ?_
                refine tn rfl (fun _ hG => y_lf (hC.tb.ext hG) na22 rfl (by omega) (by omega) rfl) ?_
                refine t_end ?_
                refine p_fork ?_ ?_
                ·
                  refine p_step rfl ?_
                  have hp1 := Ow.nil (E := 3) (sz := 1) (enc := encI) (lo := w60.heap.size) (hi := 0) (w := w60) (fun _ => rfl)
                  have hrhp1 := hp1.rng
                  refine td rfl (d_appN (xs := (el l (i : Int)).arcs) hp1 sl22 infoz3 (by decide) rfl rfl rfl (rfl) ((hA_.ext hx63)) (fun _ => rfl) (by simp; unfold maxLen; omega) (by simp; omega) (by omega) (by omega) ?_)
                  intro pa1 pc1 w64 ho65 hp1'
                  have hs66 := ho65.size
                  clear hp1; have hp1 := hp1'; clear hp1'
                  replace ho65 : Ext _ _ := ho65
                  have hx69 := hx63.step ho65 (.inl (Nat.le_refl _))
                  have hz70 := ho65.size
                  refine ⟨hx69, ?_⟩
                  refine t_end ?_
                  refine p_fork ?_ ?_
                  ·
                    refine p_step rfl ?_
                    have hp2 := Ow.nil (E := 3) (sz := 1) (enc := encI) (lo := w64.heap.size) (hi := 0) (w := w64) (fun _ => rfl)
                    have hrhp2 := hp2.rng
                    refine td rfl (d_appN (xs := (el l (i : Int)).signs) hp2 sl22 infoz3 (by decide) rfl rfl rfl (rfl) ((hS_.ext hx69)) (fun _ => rfl) (by simp; unfold maxLen; have := hcy.len; omega) (by simp; have := hcy.len; omega) (by omega) (by omega) ?_)
                    intro pa2 pc2 w71 ho72 hp2'
                    have hs73 := ho72.size
                    clear hp2; have hp2 := hp2'; clear hp2'
                    replace ho72 : Ext _ _ := ho72
                    have hx76 := hx69.step ho72 (.inl (Nat.le_refl _))
                    have hz77 := ho72.size
                    replace hp1 := hp1.ext ho72
                    refine ⟨hx76, ?_⟩
                    refine t_end ?_
                    refine p_step rfl ?_
                    refine tn rfl (fun _ hG => y_build (bld83_0_1 _ _ _ _ _ _ _) rfl) ?_
                    refine t_end ?_
                    refine p_step rfl ?_
                    refine td rfl (d_allocA zer83 ?_)
                    intro b18 w78 hbb18 hs80 ho79 hb18
                    have hx81 := hx76.step ho79 (.inl (Nat.le_refl _))
                    have hz82 := ho79.size
                    replace hp1 := hp1.ext ho79
                    replace hp2 := hp2.ext ho79
                    refine ⟨hx81, ?_⟩
                    refine t_end ?_
                    refine p_done ?_
                    have hz83 := hx81.size
                    replace hN := hN.ext hx81
                    replace hC := hC.ext hx81
                    replace hE := hE.step hx81 (.inl (Nat.le_refl _))
                    replace hb2 := hb2.ext hx81
                    replace hO := hO.ext hx81
                    replace hlp1 := hlp1.step hx81 (.inl (Nat.le_refl _))
                    replace hA_ := hA_.ext hx81
                    replace hS_ := hS_.ext hx81
                    replace hL := hL.ext hx81
                    refine sd0 (d_stN hb18 rfl rfl sz83 rfl rfl ?_)
                    intro w84 hs86 ho85 hb18'
                    clear hb18; have hb18 := hb18'; clear hb18'
                    have hz87 := ho85.size
                    replace hN := hN.out ho85 (by first | omega | (simp only [blk_some, hi1_some] at *; omega))
                    replace hC := hC.out ho85 (by first | omega | (simp only [blk_some, hi1_some] at *; omega))
                    replace hE := hE.step ho85 (by first | omega | (simp only [blk_some, hi1_some] at *; omega))
                    replace hb2 := hb2.out ho85 (by first | omega | (simp only [blk_some, hi1_some] at *; omega))
                    replace hO := hO.out ho85 (by first | omega | (simp only [blk_some, hi1_some] at *; omega))
                    replace hlp1 := hlp1.step ho85 (by first | omega | (simp only [blk_some, hi1_some] at *; omega))
                    replace hA_ := hA_.out ho85 (by first | omega | (simp only [blk_some, hi1_some] at *; omega))
                    replace hS_ := hS_.out ho85 (by first | omega | (simp only [blk_some, hi1_some] at *; omega))
                    have hrnhL := hL.rng
                    replace hL := hL.out ho85 (by first | omega | (simp only [blk_some, hi1_some] at *; omega))
                    have hrnhp1 := hp1.rng
                    replace hp1 := hp1.out ho85 (by first | omega | (simp only [blk_some, hi1_some] at *; omega))
                    have hrnhp2 := hp2.rng
                    replace hp2 := hp2.out ho85 (by first | omega | (simp only [blk_some, hi1_some] at *; omega))
                    refine rg_end ?_
                    refine n_then ?_
                    refine wp_seq ?_
                    refine rg ?_
                    refine st (mvS rfl) ?_
                    refine st (y_lbN hb18 agg83 rfl) ?_
                    refine st (mvI rfl) ?_
                    refine st (y_build (bld89_0_1 _ _ _ _ _ _ _ _) rfl) ?_
                    refine sd (d_bs (bsl51_1 _ _ _ _ _ _ _ _) rfl ?_)
                    intro b30 w88 hbb30 hs90 ho89 hb30
                    have hz91 := ho89.size
                    replace hN := hN.ext ho89
                    replace hC := hC.ext ho89
                    replace hE := hE.step ho89 (.inl (Nat.le_refl _))
                    replace hb2 := hb2.ext ho89
                    replace hO := hO.ext ho89
                    replace hlp1 := hlp1.step ho89 (.inl (Nat.le_refl _))
                    replace hA_ := hA_.ext ho89
                    replace hS_ := hS_.ext ho89
                    replace hL := hL.ext ho89
                    replace hp1 := hp1.ext ho89
                    replace hp2 := hp2.ext ho89
                    replace hb18 := hb18.ext ho89
                    have hrhO := hO.rng
                    refine sd (d_app (xs := [(⟨⟨pa1, pc1, (el l (i : Int)).arcs, pa2, pc2, (el l (i : Int)).signs⟩, tm⟩ : Prt)]) hO sl51 infoz89 (by decide) rfl rfl rfl rfl (hb30) (fun _ => rfl) (by simp; unfold maxLen; omega) (by simp; omega) (by omega) (by omega) ?_)
                    intro ao1 co1 w92 ho93 hO'
                    have hs94 := ho93.size
                    clear hO; have hO := hO'; clear hO'
                    have hz97 := ho93.size
                    replace hN := hN.out ho93 (by first | omega | (simp only [blk_some, hi1_some] at *; omega))
                    replace hC := hC.out ho93 (by first | omega | (simp only [blk_some, hi1_some] at *; omega))
                    replace hE := hE.step ho93 (by first | omega | (simp only [blk_some, hi1_some] at *; omega))
                    replace hb2 := hb2.out ho93 (by first | omega | (simp only [blk_some, hi1_some] at *; omega))
                    replace hlp1 := hlp1.step ho93 (by first | omega | (simp only [blk_some, hi1_some] at *; omega))
                    replace hA_ := hA_.out ho93 (by first | omega | (simp only [blk_some, hi1_some] at *; omega))
                    replace hS_ := hS_.out ho93 (by first | omega | (simp only [blk_some, hi1_some] at *; omega))
                    replace hL := hL.out ho93 (by first | omega | (simp only [blk_some, hi1_some] at *; omega))
                    replace hb18 := hb18.out ho93 (by first | omega | (simp only [blk_some, hi1_some] at *; omega))
                    refine st (asS rfl) ?_
                    refine rg_end ?_
                    refine n_then ?_
                    refine rg ?_
                    refine st (mvI rfl) ?_
                    refine st (mvI rfl) ?_
                    refine st (mvI rfl) ?_
                    refine st (y_mul rfl rfl (by omega)) ?_
                    refine st (y_add rfl rfl (by omega)) ?_
                    refine st (asI rfl) ?_
                    refine rg_end ?_
                    refine n_blk ?_
                    refine n_then ?_
                    refine rg ?_
                    refine st (mvI rfl) ?_
                    refine st (y_add rfl rfl (by omega)) ?_
                    refine st (asI rfl) ?_
                    refine rg_end ?_
                    exact n_then ⟨(i + 1, _, _, _, _, _), _, rfl, same_lk rfl (same_hav rfl (same_lk rfl (same_hav rfl (same_lk rfl (same_h0))))), ⟨rfl, rfl, rfl, trivial⟩, ⟨hlp1, by omega, hpk1, by first | omega | (simp; omega), hL, hO.wide (by omega)⟩, by first | omega | (dsimp only; omega)⟩
                  refine p_fork ?_ ?_
                  ·
                    refine p_step rfl ?_
                    refine td rfl (d_allocA zer83 ?_)
                    intro b18 w98 hbb18 hs100 ho99 hb18
                    have hx101 := hx69.step ho99 (.inl (Nat.le_refl _))
                    have hz102 := ho99.size
                    replace hp1 := hp1.ext ho99
                    refine ⟨hx101, ?_⟩
                    refine t_end ?_
                    refine p_step rfl ?_
                    have hp2 := Ow.nil (E := 3) (sz := 1) (enc := encI) (lo := w98.heap.size) (hi := 0) (w := w98) (fun _ => rfl)
                    have hrhp2 := hp2.rng
                    refine td rfl (d_appN (xs := (el l (i : Int)).signs) hp2 sl22 infoz3 (by decide) rfl rfl rfl (rfl) ((hS_.ext hx101)) (fun _ => rfl) (by simp; unfold maxLen; have := hcy.len; omega) (by simp; have := hcy.len; omega) (by omega) (by omega) ?_)
                    intro pa2 pc2 w103 ho104 hp2'
                    have hs105 := ho104.size
                    clear hp2; have hp2 := hp2'; clear hp2'
                    replace ho104 : Ext _ _ := ho104
                    have hx108 := hx101.step ho104 (.inl (Nat.le_refl _))
                    have hz109 := ho104.size
                    replace hb18 := hb18.ext ho104
                    replace hp1 := hp1.ext ho104
                    refine ⟨hx108, ?_⟩
                    refine t_end ?_
                    refine p_step rfl ?_
                    refine tn rfl (fun _ hG => y_build (bld83_0_1 _ _ _ _ _ _ _) rfl) ?_
                    refine t_end ?_
                    refine p_done ?_
                    have hz110 := hx108.size
                    replace hN := hN.ext hx108
                    replace hC := hC.ext hx108
                    replace hE := hE.step hx108 (.inl (Nat.le_refl _))
                    replace hb2 := hb2.ext hx108
                    replace hO := hO.ext hx108
                    replace hlp1 := hlp1.step hx108 (.inl (Nat.le_refl _))
                    replace hA_ := hA_.ext hx108
                    replace hS_ := hS_.ext hx108
                    replace hL := hL.ext hx108
                    refine sd0 (d_stN hb18 rfl rfl sz83 rfl rfl ?_)
                    intro w111 hs113 ho112 hb18'
                    clear hb18; have hb18 := hb18'; clear hb18'
                    have hz114 := ho112.size
                    replace hN := hN.out ho112 (by first | omega | (simp only [blk_some, hi1_some] at *; omega))
                    replace hC := hC.out ho112 (by first | omega | (simp only [blk_some, hi1_some] at *; omega))
                    replace hE := hE.step ho112 (by first | omega | (simp only [blk_some, hi1_some] at *; omega))
                    replace hb2 := hb2.out ho112 (by first | omega | (simp only [blk_some, hi1_some] at *; omega))
                    replace hO := hO.out ho112 (by first | omega | (simp only [blk_some, hi1_some] at *; omega))
                    replace hlp1 := hlp1.step ho112 (by first | omega | (simp only [blk_some, hi1_some] at *; omega))
                    replace hA_ := hA_.out ho112 (by first | omega | (simp only [blk_some, hi1_some] at *; omega))
                    replace hS_ := hS_.out ho112 (by first | omega | (simp only [blk_some, hi1_some] at *; omega))
                    have hrnhL := hL.rng
                    replace hL := hL.out ho112 (by first | omega | (simp only [blk_some, hi1_some] at *; omega))
                    have hrnhp1 := hp1.rng
                    replace hp1 := hp1.out ho112 (by first | omega | (simp only [blk_some, hi1_some] at *; omega))
                    have hrnhp2 := hp2.rng
                    replace hp2 := hp2.out ho112 (by first | omega | (simp only [blk_some, hi1_some] at *; omega))
                    refine rg_end ?_
                    refine n_then ?_
                    refine wp_seq ?_
                    refine rg ?_
                    refine st (mvS rfl) ?_
                    refine st (y_lbN hb18 agg83 rfl) ?_
                    refine st (mvI rfl) ?_
                    refine st (y_build (bld89_0_1 _ _ _ _ _ _ _ _) rfl) ?_
                    refine sd (d_bs (bsl51_1 _ _ _ _ _ _ _ _) rfl ?_)
                    intro b30 w115 hbb30 hs117 ho116 hb30
                    have hz118 := ho116.size
                    replace hN := hN.ext ho116
                    replace hC := hC.ext ho116
                    replace hE := hE.step ho116 (.inl (Nat.le_refl _))
                    replace hb2 := hb2.ext ho116
                    replace hO := hO.ext ho116
                    replace hlp1 := hlp1.step ho116 (.inl (Nat.le_refl _))
                    replace hA_ := hA_.ext ho116
                    replace hS_ := hS_.ext ho116
                    replace hL := hL.ext ho116
                    replace hp1 := hp1.ext ho116
                    replace hb18 := hb18.ext ho116
                    replace hp2 := hp2.ext ho116
                    have hrhO := hO.rng
                    refine sd (d_app (xs := [(⟨⟨pa1, pc1, (el l (i : Int)).arcs, pa2, pc2, (el l (i : Int)).signs⟩, tm⟩ : Prt)]) hO sl51 infoz89 (by decide) rfl rfl rfl rfl (hb30) (fun _ => rfl) (by simp; unfold maxLen; omega) (by simp; omega) (by omega) (by omega) ?_)
                    intro ao1 co1 w119 ho120 hO'
                    have hs121 := ho120.size
                    clear hO; have hO := hO'; clear hO'
                    have hz124 := ho120.size
                    replace hN := hN.out ho120 (by first | omega | (simp only [blk_some, hi1_some] at *; omega))
                    replace hC := hC.out ho120 (by first | omega | (simp only [blk_some, hi1_some] at *; omega))
                    replace hE := hE.step ho120 (by first | omega | (simp only [blk_some, hi1_some] at *; omega))
                    replace hb2 := hb2.out ho120 (by first | omega | (simp only [blk_some, hi1_some] at *; omega))
                    replace hlp1 := hlp1.step ho120 (by first | omega | (simp only [blk_some, hi1_some] at *; omega))
                    replace hA_ := hA_.out ho120 (by first | omega | (simp only [blk_some, hi1_some] at *; omega))
                    replace hS_ := hS_.out ho120 (by first | omega | (simp only [blk_some, hi1_some] at *; omega))
                    replace hL := hL.out ho120 (by first | omega | (simp only [blk_some, hi1_some] at *; omega))
                    replace hb18 := hb18.out ho120 (by first | omega | (simp only [blk_some, hi1_some] at *; omega))
                    refine st (asS rfl) ?_
                    refine rg_end ?_
                    refine n_then ?_
                    refine rg ?_
                    refine st (mvI rfl) ?_
                    refine st (mvI rfl) ?_
                    refine st (mvI rfl) ?_
                    refine st (y_mul rfl rfl (by omega)) ?_
                    refine st (y_add rfl rfl (by omega)) ?_
                    refine st (asI rfl) ?_
                    refine rg_end ?_
                    refine n_blk ?_
                    refine n_then ?_
                    refine rg ?_
                    refine st (mvI rfl) ?_
                    refine st (y_add rfl rfl (by omega)) ?_
                    refine st (asI rfl) ?_
                    refine rg_end ?_
                    exact n_then ⟨(i + 1, _, _, _, _, _), _, rfl, same_lk rfl (same_hav rfl (same_lk rfl (same_hav rfl (same_lk rfl (same_h0))))), ⟨rfl, rfl, rfl, trivial⟩, ⟨hlp1, by omega, hpk1, by first | omega | (simp; omega), hL, hO.wide (by omega)⟩, by first | omega | (dsimp only; omega)⟩
                  exact p_last
                refine p_fork ?_ ?_
                ·
                  refine p_step rfl ?_
                  refine td rfl (d_allocA zer83 ?_)
                  intro b18 w125 hbb18 hs127 ho126 hb18
                  have hx128 := hx63.step ho126 (.inl (Nat.le_refl _))
                  have hz129 := ho126.size
                  refine ⟨hx128, ?_⟩
                  refine t_end ?_
                  refine p_step rfl ?_
                  have hp1 := Ow.nil (E := 3) (sz := 1) (enc := encI) (lo := w125.heap.size) (hi := 0) (w := w125) (fun _ => rfl)
                  have hrhp1 := hp1.rng
                  refine td rfl (d_appN (xs := (el l (i : Int)).arcs) hp1 sl22 infoz3 (by decide) rfl rfl rfl (rfl) ((hA_.ext hx128)) (fun _ => rfl) (by simp; unfold maxLen; omega) (by simp; omega) (by omega) (by omega) ?_)
                  intro pa1 pc1 w130 ho131 hp1'
                  have hs132 := ho131.size
                  clear hp1; have hp1 := hp1'; clear hp1'
                  replace ho131 : Ext _ _ := ho131
                  have hx135 := hx128.step ho131 (.inl (Nat.le_refl _))
                  have hz136 := ho131.size
                  replace hb18 := hb18.ext ho131
                  refine ⟨hx135, ?_⟩
                  refine t_end ?_
                  refine p_step rfl ?_
                  have hp2 := Ow.nil (E := 3) (sz := 1) (enc := encI) (lo := w130.heap.size) (hi := 0) (w := w130) (fun _ => rfl)
                  have hrhp2 := hp2.rng
                  refine td rfl (d_appN (xs := (el l (i : Int)).signs) hp2 sl22 infoz3 (by decide) rfl rfl rfl (rfl) ((hS_.ext hx135)) (fun _ => rfl) (by simp; unfold maxLen; have := hcy.len; omega) (by simp; have := hcy.len; omega) (by omega) (by omega) ?_)
                  intro pa2 pc2 w137 ho138 hp2'
                  have hs139 := ho138.size
                  clear hp2; have hp2 := hp2'; clear hp2'
                  replace ho138 : Ext _ _ := ho138
                  have hx142 := hx135.step ho138 (.inl (Nat.le_refl _))
                  have hz143 := ho138.size
                  replace hb18 := hb18.ext ho138
                  replace hp1 := hp1.ext ho138
                  refine ⟨hx142, ?_⟩
                  refine t_end ?_
                  refine p_step rfl ?_
                  refine tn rfl (fun _ hG => y_build (bld83_0_1 _ _ _ _ _ _ _) rfl) ?_
                  refine t_end ?_
                  refine p_done ?_
                  have hz144 := hx142.size
                  replace hN := hN.ext hx142
                  replace hC := hC.ext hx142
                  replace hE := hE.step hx142 (.inl (Nat.le_refl _))
                  replace hb2 := hb2.ext hx142
                  replace hO := hO.ext hx142
                  replace hlp1 := hlp1.step hx142 (.inl (Nat.le_refl _))
                  replace hA_ := hA_.ext hx142
                  replace hS_ := hS_.ext hx142
                  replace hL := hL.ext hx142
                  refine sd0 (d_stN hb18 rfl rfl sz83 rfl rfl ?_)
                  intro w145 hs147 ho146 hb18'
                  clear hb18; have hb18 := hb18'; clear hb18'
                  have hz148 := ho146.size
                  replace hN := hN.out ho146 (by first | omega | (simp only [blk_some, hi1_some] at *; omega))
                  replace hC := hC.out ho146 (by first | omega | (simp only [blk_some, hi1_some] at *; omega))
                  replace hE := hE.step ho146 (by first | omega | (simp only [blk_some, hi1_some] at *; omega))
                  replace hb2 := hb2.out ho146 (by first | omega | (simp only [blk_some, hi1_some] at *; omega))
                  replace hO := hO.out ho146 (by first | omega | (simp only [blk_some, hi1_some] at *; omega))
                  replace hlp1 := hlp1.step ho146 (by first | omega | (simp only [blk_some, hi1_some] at *; omega))
                  replace hA_ := hA_.out ho146 (by first | omega | (simp only [blk_some, hi1_some] at *; omega))
                  replace hS_ := hS_.out ho146 (by first | omega | (simp only [blk_some, hi1_some] at *; omega))
                  have hrnhL := hL.rng
                  replace hL := hL.out ho146 (by first | omega | (simp only [blk_some, hi1_some] at *; omega))
                  have hrnhp1 := hp1.rng
                  replace hp1 := hp1.out ho146 (by first | omega | (simp only [blk_some, hi1_some] at *; omega))
                  have hrnhp2 := hp2.rng
                  replace hp2 := hp2.out ho146 (by first | omega | (simp only [blk_some, hi1_some] at *; omega))
                  refine rg_end ?_
                  refine n_then ?_
                  refine wp_seq ?_
                  refine rg ?_
                  refine st (mvS rfl) ?_
                  refine st (y_lbN hb18 agg83 rfl) ?_
                  refine st (mvI rfl) ?_
                  refine st (y_build (bld89_0_1 _ _ _ _ _ _ _ _) rfl) ?_
                  refine sd (d_bs (bsl51_1 _ _ _ _ _ _ _ _) rfl ?_)
                  intro b30 w149 hbb30 hs151 ho150 hb30
                  have hz152 := ho150.size
                  replace hN := hN.ext ho150
                  replace hC := hC.ext ho150
                  replace hE := hE.step ho150 (.inl (Nat.le_refl _))
                  replace hb2 := hb2.ext ho150
                  replace hO := hO.ext ho150
                  replace hlp1 := hlp1.step ho150 (.inl (Nat.le_refl _))
                  replace hA_ := hA_.ext ho150
                  replace hS_ := hS_.ext ho150
                  replace hL := hL.ext ho150
                  replace hb18 := hb18.ext ho150
                  replace hp1 := hp1.ext ho150
                  replace hp2 := hp2.ext ho150
                  have hrhO := hO.rng
                  refine sd (d_app (xs := [(⟨⟨pa1, pc1, (el l (i : Int)).arcs, pa2, pc2, (el l (i : Int)).signs⟩, tm⟩ : Prt)]) hO sl51 infoz89 (by decide) rfl rfl rfl rfl (hb30) (fun _ => rfl) (by simp; unfold maxLen; omega) (by simp; omega) (by omega) (by omega) ?_)
                  intro ao1 co1 w153 ho154 hO'
                  have hs155 := ho154.size
                  clear hO; have hO := hO'; clear hO'
                  have hz158 := ho154.size
                  replace hN := hN.out ho154 (by first | omega | (simp only [blk_some, hi1_some] at *; omega))
                  replace hC := hC.out ho154 (by first | omega | (simp only [blk_some, hi1_some] at *; omega))
                  replace hE := hE.step ho154 (by first | omega | (simp only [blk_some, hi1_some] at *; omega))
                  replace hb2 := hb2.out ho154 (by first | omega | (simp only [blk_some, hi1_some] at *; omega))
                  replace hlp1 := hlp1.step ho154 (by first | omega | (simp only [blk_some, hi1_some] at *; omega))
                  replace hA_ := hA_.out ho154 (by first | omega | (simp only [blk_some, hi1_some] at *; omega))
                  replace hS_ := hS_.out ho154 (by first | omega | (simp only [blk_some, hi1_some] at *; omega))
                  replace hL := hL.out ho154 (by first | omega | (simp only [blk_some, hi1_some] at *; omega))
                  replace hb18 := hb18.out ho154 (by first | omega | (simp only [blk_some, hi1_some] at *; omega))
                  refine st (asS rfl) ?_
                  refine rg_end ?_
                  refine n_then ?_
                  refine rg ?_
                  refine st (mvI rfl) ?_
                  refine st (mvI rfl) ?_
                  refine st (mvI rfl) ?_
                  refine st (y_mul rfl rfl (by omega)) ?_
                  refine st (y_add rfl rfl (by omega)) ?_
                  refine st (asI rfl) ?_
                  refine rg_end ?_
                  refine n_blk ?_
                  refine n_then ?_
                  refine rg ?_
                  refine st (mvI rfl) ?_
                  refine st (y_add rfl rfl (by omega)) ?_
                  refine st (asI rfl) ?_
                  refine rg_end ?_
                  exact n_then ⟨(i + 1, _, _, _, _, _), _, rfl, same_lk rfl (same_hav rfl (same_lk rfl (same_hav rfl (same_lk rfl (same_h0))))), ⟨rfl, rfl, rfl, trivial⟩, ⟨hlp1, by omega, hpk1, by first | omega | (simp; omega), hL, hO.wide (by omega)⟩, by first | omega | (dsimp only; omega)⟩
                exact p_last
    ·
      try simp only [decide_eq_true_eq, decide_eq_false_iff_not, Bool.not_eq_true', Bool.not_eq_false', Bool.and_eq_true, Bool.or_eq_true, Bool.or_eq_false_iff, Bool.cond_true_right, Bool.cond_false_right, Bool.cond_true_left, Bool.cond_false_left, ne_eq, Decidable.not_not, bne_iff_ne, beq_iff_eq, beq_eq_false_iff_ne, Bool.not_true, Bool.not_false] at hc2
      refine wp_exit ?_
      refine e_then (e_then (e_blk (?_)))
      refine n_then ?_
      refine wp_seq ?_
      refine rg ?_
      refine st (mvS rfl) ?_
      refine st (mvI rfl) ?_
      refine st (asS rfl) ?_
      refine st (asI rfl) ?_
      refine st (asI rfl) ?_
      refine rg_end ?_
      refine n_then ?_
      refine wp_ret ?_
      refine ret3 (v := (.slice _ _ _)) (v' := (.int .i64 _)) (v'' := (.int .i64 _)) Try.results32 rfl rfl rfl ?_
      exact ⟨ao, _, co, s, 0, rfl, fun x hx => ⟨rfl, hpk.fin hok hx⟩, hE⟩

set_option maxHeartbeats 1000000 in
set_option maxRecDepth 100000 in
theorem law17_SearchBeatsTheBound_ok (a0 : Option Addr) (c0 : Nat) (l0 : List Int) (w : World) (hL0 : Ints 0 w.heap.size w a0 l0) (hl0 : (l0.length : Int) ≤ 9223372036854775807) : Cal Try.prog 10 [.slice a0 l0.length c0] w (fun v w' => v = .bool true ∧ Ext w w') := by
  have hE : Out 0 0 w w := Out.refl _ _ w
  refine enter Try.func10 rfl Try.ntmps10 rfl ?_
  refine wp_seq ?_
  refine rg ?_
  refine st (asB rfl) ?_
  refine rg_end ?_
  refine n_then ?_
  refine wp_seq ?_
  refine rg ?_
  refine st (mvS rfl) ?_
  refine sc cl23 (keep_Slack_ok _ _ _ _ _ _ hL0 hl0) rfl ?_
  rintro v5 w1 ⟨N, A, rfl, hsm, hN, ho2⟩
  have hok := hsm.1
  have hse := small_err hsm true
  have hop := small_opt hsm (findT N true 1048576)
  have hz6 := ho2.size
  replace hL0 := hL0.ext ho2
  replace hE := hE.step ho2 (.inl (Nat.le_refl _))
  refine sd (d_allocA zer26 ?_)
  intro b3 w7 hbb3 hs9 ho8 hb3
  have hz10 := ho8.size
  replace hL0 := hL0.ext ho8
  replace hE := hE.step ho8 (.inl (Nat.le_refl _))
  replace hN := hN.ext ho8
  refine sd0 (d_stN hb3 rfl rfl sz26 rfl rfl ?_)
  intro w11 hs13 ho12 hb3'
  clear hb3; have hb3 := hb3'; clear hb3'
  have hz14 := ho12.size
  replace hL0 := hL0.out ho12 (by first | omega | (simp only [blk_some, hi1_some] at *; omega))
  replace hE := hE.step ho12 (by first | omega | (simp only [blk_some, hi1_some] at *; omega))
  replace hN := hN.out ho12 (by first | omega | (simp only [blk_some, hi1_some] at *; omega))
  refine rg_end ?_
  refine n_then ?_
  refine wp_seq ?_
  refine rgD 8 (fun w_ => Ext w11 w_) (fun i => Nat.beq i 2 || Nat.beq i 3) mixed (by kernel_rfl) ?_
  intro w15 ho16 hs17
  refine ⟨ho16, ?_⟩
  have hx18 := ho16
  refine tn rfl (fun _ hG => y_lbN (hb3.ext hG) agg26 rfl) ?_
  refine tn rfl (fun _ hG => y_lbN (hb3.ext hG) agg26 rfl) ?_
  refine tc rfl cl31 (ref11_Tree_ok N A _ _ _ (hN.ext hx18)) rfl ?_
  rintro v23 w19 ⟨ar, cr, tree, rfl, hTr, htl, ho20⟩
  have hx24 := hx18.step ho20 (.inl (Nat.le_refl _))
  have hz25 := ho20.size
  refine ⟨hx24, ?_⟩
  refine tc rfl cl30 (ref11_Fundamental_ok N A _ _ tree _ _ _ _ _ (hN.ext hx24) hTr (by omega)) rfl ?_
  rintro v30 w26 ⟨ac, cc, l, e1, rfl, hC, hall, hll, ho27⟩
  have hx31 := hx24.step ho27 (.inl (Nat.le_refl _))
  have hz32 := ho27.size
  replace hTr := hTr.ext ho27
  refine ⟨hx31, ?_⟩
  refine tn rfl (fun _ hG => mvT rfl) ?_
  refine tn rfl (fun _ hG => y_ext rfl rfl) ?_
  refine tn rfl (fun _ hG => y_ext rfl rfl) ?_
  refine tn rfl (fun _ hG => asS rfl) ?_
  refine t_end ?_
  have hz33 := hx31.size
  replace hL0 := hL0.ext hx31
  replace hE := hE.step hx31 (.inl (Nat.le_refl _))
  replace hN := hN.ext hx31
  replace hb3 := hb3.ext hx31
  refine st (asI rfl) ?_
  refine rg_end ?_
  refine n_then ?_
  refine wp_seq ?_
  refine rg ?_
  refine st (y_lbN hb3 agg26 rfl) ?_
  refine st (mvS rfl) ?_
  refine sc cl32 (ref13_Pack_ok N A _ _ l _ _ _ _ _ hN hok hC hall hll) rfl ?_
  rintro v38 w34 ⟨ao, m, co, b, e2, rfl, hpb, ho35⟩
  have hz39 := ho35.size
  replace hL0 := hL0.ext ho35
  replace hE := hE.step ho35 (.inl (Nat.le_refl _))
  replace hN := hN.ext ho35
  replace hb3 := hb3.ext ho35
  replace hTr := hTr.ext ho35
  replace hC := hC.ext ho35
  refine st (mvT rfl) ?_
  refine st (y_ext rfl rfl) ?_
  refine st (y_ext rfl rfl) ?_
  refine st (y_ext rfl rfl) ?_
  refine st (asS rfl) ?_
  refine st (asI rfl) ?_
  refine st (asI rfl) ?_
  refine rg_end ?_
  refine n_then ?_
  refine wp_seq ?_
  refine rg ?_
  refine st (y_lbN hb3 agg26 rfl) ?_
  refine sc cl18 (search_Solve_ok N A _ _ 1048576 _ hN) rfl ?_
  rintro v44 w40 ⟨at2, ct2, rfl, hT2, ho41⟩
  have hz45 := ho41.size
  replace hL0 := hL0.ext ho41
  replace hE := hE.step ho41 (.inl (Nat.le_refl _))
  replace hN := hN.ext ho41
  replace hb3 := hb3.ext ho41
  replace hTr := hTr.ext ho41
  replace hC := hC.ext ho41
  refine st (mvT rfl) ?_
  refine st (y_ext rfl rfl) ?_
  refine st (y_ext rfl rfl) ?_
  refine st (y_ext rfl rfl) ?_
  refine st (y_ext rfl rfl) ?_
  refine st (asS rfl) ?_
  refine st (asI rfl) ?_
  refine st (asI rfl) ?_
  refine st (asI rfl) ?_
  refine rg_end ?_
  refine n_then ?_
  refine wp_seq ?_
  refine wp_seq ?_
  refine rg ?_
  refine st (mvI rfl) ?_
  refine st (y_eql rfl rfl) ?_
  refine rg_end ?_
  refine n_then ?_
  refine cnd rfl (fun hc0 => ?_) (fun hc0 => ?_)
  ·
    try simp only [decide_eq_true_eq, decide_eq_false_iff_not, Bool.not_eq_true', Bool.not_eq_false', Bool.and_eq_true, Bool.or_eq_true, Bool.or_eq_false_iff, Bool.cond_true_right, Bool.cond_false_right, Bool.cond_true_left, Bool.cond_false_left, ne_eq, Decidable.not_not, bne_iff_ne, beq_iff_eq, beq_eq_false_iff_ne, Bool.not_true, Bool.not_false] at hc0
    have h14 : findE N true 1048576 = 14 := by
      rcases hop with h | h
      · exact h.1
      · have := (hpb _ h.2.1).1; omega
    refine wp_seq ?_
    refine rg ?_
    refine sc cl15 (law17_awake_ok _) rfl ?_
    rintro v50 w46 ⟨rfl, ho47⟩
    have hz51 := ho47.size
    replace hL0 := hL0.ext ho47
    replace hE := hE.step ho47 (.inl (Nat.le_refl _))
    replace hN := hN.ext ho47
    replace hb3 := hb3.ext ho47
    replace hTr := hTr.ext ho47
    replace hC := hC.ext ho47
    replace hT2 := hT2.ext ho47
    refine st (mvB rfl) ?_
    refine stg rfl rfl rfl (mvI rfl) ?_
    refine stg rfl rfl rfl (y_eql rfl rfl) ?_
    refine st (y_pickT rfl rfl (v := .bool _) rfl) ?_
    refine st (asB rfl) ?_
    refine rg_end ?_
    refine n_then ?_
    refine wp_ret ?_
    refine r_then (ret1 (v := (.bool _)) Try.results10 rfl ?_)
    exact ⟨congrArg Value.bool (decide_eq_true h14), hE⟩
  ·
    try simp only [decide_eq_true_eq, decide_eq_false_iff_not, Bool.not_eq_true', Bool.not_eq_false', Bool.and_eq_true, Bool.or_eq_true, Bool.or_eq_false_iff, Bool.cond_true_right, Bool.cond_false_right, Bool.cond_true_left, Bool.cond_false_left, ne_eq, Decidable.not_not, bne_iff_ne, beq_iff_eq, beq_eq_false_iff_ne, Bool.not_true, Bool.not_false] at hc0
    have hfin : findE N true 1048576 = 14 ∨ findE N true 1048576 = 0 ∧ findC N true 1048576 ≥ b := by
      rcases hop with h | h
      · exact .inl h.1
      · refine .inr ⟨h.1, ?_⟩
        have := (hpb _ h.2.1).2
        rw [cost_all hok] at this
        rw [h.2.2.1]; exact this
    refine wp_skip ?_
    refine n_then ?_
    refine wp_seq ?_
    refine rg ?_
    refine sc cl15 (law17_awake_ok _) rfl ?_
    rintro v56 w52 ⟨rfl, ho53⟩
    have hz57 := ho53.size
    replace hL0 := hL0.ext ho53
    replace hE := hE.step ho53 (.inl (Nat.le_refl _))
    replace hN := hN.ext ho53
    replace hb3 := hb3.ext ho53
    replace hTr := hTr.ext ho53
    replace hC := hC.ext ho53
    replace hT2 := hT2.ext ho53
    refine st (mvB rfl) ?_
    refine stg rfl rfl rfl (mvI rfl) ?_
    refine stg rfl rfl rfl (y_eql rfl rfl) ?_
    refine stg rfl rfl rfl (mvB rfl) ?_
    refine gspL 47 rfl (fun hg58 => ?_) (fun hg58 => ?_)
    ·
      have hg58n := hg58; try simp only [decide_eq_true_eq, decide_eq_false_iff_not, Bool.not_eq_true', Bool.not_eq_false', Bool.and_eq_true, Bool.or_eq_true, Bool.or_eq_false_iff, Bool.cond_true_right, Bool.cond_false_right, Bool.cond_true_left, Bool.cond_false_left, ne_eq, Decidable.not_not, bne_iff_ne, beq_iff_eq, beq_eq_false_iff_ne, Bool.not_true, Bool.not_false] at hg58n
      refine sts rfl rfl hg58 ?_
      refine sts rfl rfl hg58 ?_
      refine sts rfl rfl hg58 ?_
      refine stu rfl rfl ?_
      refine stu rfl rfl ?_
      refine stu rfl rfl ?_
      refine sts rfl rfl hg58 ?_
      refine stg rfl rfl rfl (y_pickT rfl hg58 (v := .bool _) rfl) ?_
      refine st (y_pickT rfl rfl (v := .bool _) rfl) ?_
      refine st (asB rfl) ?_
      refine rg_end ?_
      refine n_then ?_
      refine wp_ret ?_
      refine ret1 (v := (.bool _)) Try.results10 rfl ?_
      first
      | exact ⟨rfl, hE⟩
      | exact ⟨congrArg Value.bool (decide_eq_true (by omega)), hE⟩
      | (exfalso; omega)
    ·
      have hg58n := hg58; try simp only [decide_eq_true_eq, decide_eq_false_iff_not, Bool.not_eq_true', Bool.not_eq_false', Bool.and_eq_true, Bool.or_eq_true, Bool.or_eq_false_iff, Bool.cond_true_right, Bool.cond_false_right, Bool.cond_true_left, Bool.cond_false_left, ne_eq, Decidable.not_not, bne_iff_ne, beq_iff_eq, beq_eq_false_iff_ne, Bool.not_true, Bool.not_false] at hg58n
      refine stg rfl rfl hg58 (mvI rfl) ?_
      refine stg rfl rfl hg58 (y_eql rfl rfl) ?_
      refine stg rfl rfl hg58 (mvB rfl) ?_
      refine gspL 50 rfl (fun hg59 => ?_) (fun hg59 => ?_)
      ·
        have hg59n := hg59; try simp only [decide_eq_true_eq, decide_eq_false_iff_not, Bool.not_eq_true', Bool.not_eq_false', Bool.and_eq_true, Bool.or_eq_true, Bool.or_eq_false_iff, Bool.cond_true_right, Bool.cond_false_right, Bool.cond_true_left, Bool.cond_false_left, ne_eq, Decidable.not_not, bne_iff_ne, beq_iff_eq, beq_eq_false_iff_ne, Bool.not_true, Bool.not_false] at hg59n
        refine stg rfl rfl hg59 (mvI rfl) ?_
        refine stg rfl rfl hg59 (mvI rfl) ?_
        refine stg rfl rfl hg59 (y_geq rfl rfl) ?_
        refine stg rfl rfl hg58 (y_pickT rfl hg59 (v := .bool _) rfl) ?_
        refine stg rfl rfl rfl (y_pickF rfl hg58 (v := .bool _) rfl) ?_
        refine st (y_pickT rfl rfl (v := .bool _) rfl) ?_
        refine st (asB rfl) ?_
        refine rg_end ?_
        refine n_then ?_
        refine wp_ret ?_
        refine ret1 (v := (.bool _)) Try.results10 rfl ?_
        first
        | exact ⟨rfl, hE⟩
        | exact ⟨congrArg Value.bool (decide_eq_true (by omega)), hE⟩
        | (exfalso; omega)
      ·
        have hg59n := hg59; try simp only [decide_eq_true_eq, decide_eq_false_iff_not, Bool.not_eq_true', Bool.not_eq_false', Bool.and_eq_true, Bool.or_eq_true, Bool.or_eq_false_iff, Bool.cond_true_right, Bool.cond_false_right, Bool.cond_true_left, Bool.cond_false_left, ne_eq, Decidable.not_not, bne_iff_ne, beq_iff_eq, beq_eq_false_iff_ne, Bool.not_true, Bool.not_false] at hg59n
        refine sts rfl rfl hg59 ?_
        refine sts rfl rfl hg59 ?_
        refine sts rfl rfl hg59 ?_
        refine stg rfl rfl hg58 (y_pickF rfl hg59 (v := .bool _) rfl) ?_
        refine stg rfl rfl rfl (y_pickF rfl hg58 (v := .bool _) rfl) ?_
        refine st (y_pickT rfl rfl (v := .bool _) rfl) ?_
        refine st (asB rfl) ?_
        refine rg_end ?_
        refine n_then ?_
        refine wp_ret ?_
        refine ret1 (v := (.bool _)) Try.results10 rfl ?_
        first
        | exact ⟨rfl, hE⟩
        | exact ⟨congrArg Value.bool (decide_eq_true (by omega)), hE⟩
        | (exfalso; omega)
end Go.Proofs.Ytdbiapbdmmkfjaa
