/-
  Walks of the functions, printed by a program out of the code and the loops' relations.
-/
import Derived.Test.YteicgnmggkhlbaaWkH
import Derived.Test.YteicgnmggkhlbaaProg
import Derived.KernelRfl
import Derived.Test.YteicgnmggkhlbaaKeep
import Derived.Test.YteicgnmggkhlbaaP13
namespace Go.Proofs.Yteicgnmggkhlbaa
open Go.Wk Go.RowKit
set_option linter.unusedVariables false
set_option linter.unusedSimpArgs false
theorem bld44_0_2_3 (a0 : Int) (a2 : Int) (a3 : Int) (w : World) : (Instr.build 44 [(0, (.int .i64 a0)), (2, (.int .i64 a2)), (3, (.int .i64 a3))].toArray).run Try.prog w = .ok (.agg [(.int .i64 a0), .slice none 0 0, (.int .i64 a2), (.int .i64 a3)].toArray) w := by kernel_rfl
theorem bld72_0 (d0 : Option Addr) (l0 : Nat) (c0 : Nat) (w : World) : (Instr.build 72 [(0, (.slice d0 l0 c0))].toArray).run Try.prog w = .ok (.agg [(.slice d0 l0 c0), .int .i64 0].toArray) w := by kernel_rfl
theorem bsl23_1 (d0 : Option Addr) (l0 : Nat) (c0 : Nat) (w : World) : (Instr.buildSlice 23 1 [(0, (.slice d0 l0 c0))].toArray).run Try.prog w = .ok (.slice (some ⟨w.heap.size, 0, none⟩) 1 1) (w.alloc (.cells [(.slice d0 l0 c0)].toArray 35)) := by kernel_rfl
theorem bsl35_1 (a0_0 : Int) (d0_1 : Option Addr) (l0_1 : Nat) (c0_1 : Nat) (a0_2 : Int) (a0_3 : Int) (w : World) : (Instr.buildSlice 35 1 [(0, (.agg #[(.int .i64 a0_0), (.slice d0_1 l0_1 c0_1), (.int .i64 a0_2), (.int .i64 a0_3)]))].toArray).run Try.prog w = .ok (.slice (some ⟨w.heap.size, 0, none⟩) 1 1) (w.alloc (.cells [(.int .i64 a0_0), (.slice d0_1 l0_1 c0_1), (.int .i64 a0_2), (.int .i64 a0_3)].toArray 44)) := by kernel_rfl
theorem cl22 : Callable Try.prog 22 := ⟨Try.call22⟩
theorem cl33 : Callable Try.prog 33 := ⟨Try.call33⟩
theorem cl34 : Callable Try.prog 34 := ⟨Try.call34⟩
theorem fld72_0 : FieldOf Try.prog 72 0 0 := fun b o w => by simp [Instr.fieldAt, fieldPlace, Instr.sureAddr, Addr.add_lit]
theorem fld72_1 : FieldOf Try.prog 72 1 1 := fun b o w => by simp [Instr.fieldAt, fieldPlace, Instr.sureAddr, Addr.add_lit]
set_option maxRecDepth 100000 in
theorem infoz35 : ∃ i, Try.prog.info? 35 = some i ∧ i.zero = some (.slice none 0 0) ∧ i.size = 1 ∧ i.bytes = 24 ∧ (Value.cells (.slice none 0 0)).size = 1 := ⟨Try.t35, Try.type35, rfl, rfl, rfl, rfl⟩
set_option maxRecDepth 100000 in
theorem infoz44 : ∃ i, Try.prog.info? 44 = some i ∧ i.zero = some (.agg #[.int .i64 0, .slice none 0 0, .int .i64 0, .int .i64 0]) ∧ i.size = 4 ∧ i.bytes = 48 ∧ (Value.cells (.agg #[.int .i64 0, .slice none 0 0, .int .i64 0, .int .i64 0])).size = 4 := ⟨Try.t44, Try.type44, rfl, rfl, rfl, rfl⟩

theorem list_ext_el {a b : List Int} (hl : a.length = b.length) (h : ∀ q : Nat, q < a.length → el a q = el b q) : a = b := by
  apply List.ext_getElem hl
  intro i h1 h2
  have := h i h1
  simpa [el, h1, h2] using this

set_option maxRecDepth 100000 in
theorem keep_Pick_ok (v n : Int) (w : World) (h1 : 1 ≤ n) (h2 : n ≤ 9223372036854775807) : Cal Try.prog 22 [.int .i64 v, .int .i64 n] w (fun r w' => r = .int .i64 (pick v n) ∧ Ext w w') := by
  have e2 : IntKind.u64.wrap n = n := IntWalk.u64_in n (by omega)
  have hE : Out 0 0 w w := Out.refl _ _ w
  refine enter Try.func22 rfl Try.ntmps22 rfl ?_
  refine wp_seq ?_
  refine rg ?_
  refine st (asI rfl) ?_
  refine rg_end ?_
  refine n_then ?_
  refine wp_seq ?_
  refine rg ?_
  refine st (mvI rfl) ?_
  refine st (y_conv rfl rfl Try.underlying62) ?_
  refine st (mvI rfl) ?_
  refine st (y_conv rfl rfl Try.underlying62) ?_
  refine st (y_rem rfl rfl (by rw [e2]; omega)) ?_
  refine st (y_conv rfl rfl Try.underlying3) ?_
  refine st (asI rfl) ?_
  refine rg_end ?_
  refine n_then ?_
  refine wp_ret ?_
  refine ret1 (v := (.int .i64 _)) Try.results22 rfl ?_
  exact ⟨vi (pick_run v n h1 h2), hE⟩

set_option maxRecDepth 100000 in
theorem keep_From_ok (al : Option Addr) (cl : Nat) (l : List Int) (lo hi : Nat) (w : World) (hL : Ints lo hi w al l) (hn : (l.length : Int) ≤ 9223372036854775807) : Cal Try.prog 33 [.slice al l.length cl] w (fun v w' => ∃ b, v = .pointer (some ⟨b, 0, none⟩) ∧ b = w.heap.size ∧ w'.heap.size = b + 1 ∧ Src lo hi b w' ∧ Ext w w') := by
  have hE : Out 0 0 w w := Out.refl _ _ w
  refine enter Try.func33 rfl Try.ntmps33 rfl ?_
  refine wp_seq ?_
  refine rg ?_
  refine st (asP rfl) ?_
  refine rg_end ?_
  refine n_then ?_
  refine wp_seq ?_
  refine rg ?_
  refine st (mvS rfl) ?_
  refine st (y_build (bld72_0 _ _ _ _) rfl) ?_
  refine sd (d_boxA rfl ?_)
  intro bl4 w1 hbbl4 hs3 ho2 hbl4
  have hz5 := ho2.size
  replace hL := hL.ext ho2
  replace hE := hE.step ho2 (.inl (Nat.le_refl _))
  refine st (asP rfl) ?_
  refine rg_end ?_
  refine n_then ?_
  refine wp_ret ?_
  refine ret1 (v := (.pointer _)) Try.results33 rfl ?_
  exact ⟨bl4, rfl, hbbl4, hs3, ⟨al, cl, l, 0, hbl4, hL, by omega, by omega, hn⟩, hE⟩

set_option maxRecDepth 100000 in
theorem keep_Next_ok (bs : Nat) (n : Int) (lo hi : Nat) (w : World) (hS : Src lo hi bs w) (hb : bs < lo ∨ hi ≤ bs) (h1 : 1 ≤ n) (h2 : n ≤ 9223372036854775807) : Cal Try.prog 34 [.pointer (some ⟨bs, 0, none⟩), .int .i64 n] w (fun v w' => ∃ r : Int, v = .int .i64 r ∧ 0 ≤ r ∧ r < n ∧ Src lo hi bs w' ∧ Out bs (bs + 1) w w') := by
  obtain ⟨al, cl, l, ps, hbs, hL, p0, p1, p2⟩ := hS
  have hbl := hbs.lt
  have hE : Out bs (bs + 1) w w := Out.refl _ _ w
  refine enter Try.func34 rfl Try.ntmps34 rfl ?_
  refine wp_seq ?_
  refine rg ?_
  refine st (asI rfl) ?_
  refine rg_end ?_
  refine n_then ?_
  refine wp_seq ?_
  refine wp_seq ?_
  refine rgD 9 (fun w_ => Ext w w_) (fun i => false) mixed (by kernel_rfl) ?_
  intro w1 ho2 hs3
  refine ⟨ho2, ?_⟩
  have hx4 := ho2
  refine tn rfl (fun _ hG => mvP rfl) ?_
  refine tn rfl (fun _ hG => y_nil rfl) ?_
  refine tn rfl (fun _ hG => y_fld fld72_1 rfl) ?_
  refine tn rfl (fun _ hG => y_lb (hbs.ext hG) na3 rfl rfl) ?_
  refine tn rfl (fun _ hG => mvP rfl) ?_
  refine tn rfl (fun _ hG => y_nil rfl) ?_
  refine tn rfl (fun _ hG => y_fld fld72_0 rfl) ?_
  refine tn rfl (fun _ hG => y_lb (hbs.ext hG) na22 rfl rfl) ?_
  refine tn rfl (fun _ hG => y_len Try.underlying22 rfl) ?_
  refine t_end ?_
  have hz5 := hx4.size
  replace hbs := hbs.ext hx4
  replace hL := hL.ext hx4
  replace hE := hE.step hx4 (.inl (Nat.le_refl _))
  refine st (y_geq rfl rfl) ?_
  refine rg_end ?_
  refine n_then ?_
  refine cnd rfl (fun hc0 => ?_) (fun hc0 => ?_)
  ·
    try simp only [decide_eq_true_eq, decide_eq_false_iff_not, Bool.not_eq_true', Bool.not_eq_false', Bool.and_eq_true, Bool.or_eq_true, Bool.or_eq_false_iff, Bool.cond_true_right, Bool.cond_false_right, Bool.cond_true_left, Bool.cond_false_left, ne_eq, Decidable.not_not, bne_iff_ne, beq_iff_eq, beq_eq_false_iff_ne, Bool.not_true, Bool.not_false] at hc0
    refine wp_seq ?_
    refine rg ?_
    refine st (asI rfl) ?_
    refine rg_end ?_
    refine n_then ?_
    refine wp_ret ?_
    refine r_then (ret1 (v := (.int .i64 _)) Try.results34 rfl ?_)
    exact ⟨0, rfl, by omega, by omega, ⟨al, cl, l, ps, hbs, hL, p0, p1, p2⟩, hE⟩
  ·
    try simp only [decide_eq_true_eq, decide_eq_false_iff_not, Bool.not_eq_true', Bool.not_eq_false', Bool.and_eq_true, Bool.or_eq_true, Bool.or_eq_false_iff, Bool.cond_true_right, Bool.cond_false_right, Bool.cond_true_left, Bool.cond_false_left, ne_eq, Decidable.not_not, bne_iff_ne, beq_iff_eq, beq_eq_false_iff_ne, Bool.not_true, Bool.not_false] at hc0
    refine wp_skip ?_
    refine n_then ?_
    refine wp_seq ?_
    refine rg ?_
    refine st (mvP rfl) ?_
    refine st (y_nil rfl) ?_
    refine st (y_fld fld72_1 rfl) ?_
    refine st (y_lb hbs na3 rfl rfl) ?_
    refine st (y_add rfl rfl (by omega)) ?_
    refine st (y_nil rfl) ?_
    refine st (y_fld fld72_1 rfl) ?_
    refine sd0 (d_st hbs sz3 rfl rfl rfl (Nat.le_of_ble_eq_true rfl) ?_)
    intro w6 hs8 ho7 hbs'
    clear hbs; have hbs := hbs'; clear hbs'
    have hz9 := ho7.size
    replace hL := hL.out ho7 (by first | omega | (simp only [blk_some, hi1_some] at *; omega))
    replace hE := hE.step ho7 (by first | omega | (simp only [blk_some, hi1_some] at *; omega))
    refine rg_end ?_
    refine n_then ?_
    refine wp_seq ?_
    refine rgD 12 (fun w_ => Ext w6 w_) (fun i => false) mixed (by kernel_rfl) ?_
    intro w10 ho11 hs12
    refine ⟨ho11, ?_⟩
    have hx13 := ho11
    refine tn rfl (fun _ hG => mvP rfl) ?_
    refine tn rfl (fun _ hG => y_nil rfl) ?_
    refine tn rfl (fun _ hG => y_fld fld72_0 rfl) ?_
    refine tn rfl (fun _ hG => y_lb (hbs.ext hG) na22 rfl rfl) ?_
    refine tn rfl (fun _ hG => mvP rfl) ?_
    refine tn rfl (fun _ hG => y_nil rfl) ?_
    refine tn rfl (fun _ hG => y_fld fld72_1 rfl) ?_
    refine tn rfl (fun _ hG => y_lb (hbs.ext hG) na3 rfl rfl) ?_
    refine tn rfl (fun _ hG => y_sub rfl rfl (by omega)) ?_
    refine tn rfl (fun _ hG => y_ix (hL.ext hG) sl22 rfl (rfl) rfl (by omega) (by omega)) ?_
    refine tn rfl (fun _ hG => y_le (hL.ext hG) na3 rfl (by omega) (by omega) rfl) ?_
    refine tn rfl (fun _ hG => mvI rfl) ?_
    refine t_end ?_
    have hz14 := hx13.size
    replace hbs := hbs.ext hx13
    replace hL := hL.ext hx13
    replace hE := hE.step hx13 (.inl (Nat.le_refl _))
    refine sc cl22 (keep_Pick_ok _ _ _ (by omega) (by omega)) rfl ?_
    rintro v19 w15 ⟨rfl, ho16⟩
    have hz20 := ho16.size
    replace hbs := hbs.ext ho16
    replace hL := hL.ext ho16
    replace hE := hE.step ho16 (.inl (Nat.le_refl _))
    refine st (asI rfl) ?_
    refine rg_end ?_
    refine n_then ?_
    refine wp_ret ?_
    refine ret1 (v := (.int .i64 _)) Try.results34 rfl ?_
    have hp := pick_rng (el l (ps + 1 - 1)) n h1
    exact ⟨_, rfl, hp.1, hp.2, ⟨al, cl, l, ps + 1, hbs, hL, by omega, by omega, p2⟩, hE⟩

set_option maxRecDepth 100000 in
theorem keep_Same_int_ok (a b : List Int) (aa ab : Option Addr) (ca cb la ha_ lb hb_ : Nat) (w : World) (hA : Ints la ha_ w aa a) (hB : Ints lb hb_ w ab b) (hn : (a.length : Int) ≤ 9223372036854775807) : Cal Try.prog 28 [.slice aa a.length ca, .slice ab b.length cb] w (fun v w' => v = .bool (decide (a = b)) ∧ Ext w w') := by
  have hE : Out 0 0 w w := Out.refl _ _ w
  refine enter Try.func28 rfl Try.ntmps28 rfl ?_
  refine wp_seq ?_
  refine rg ?_
  refine st (asB rfl) ?_
  refine rg_end ?_
  refine n_then ?_
  refine wp_seq ?_
  refine wp_seq ?_
  refine rg ?_
  refine st (mvS rfl) ?_
  refine st (y_len Try.underlying22 rfl) ?_
  refine st (mvS rfl) ?_
  refine st (y_len Try.underlying22 rfl) ?_
  refine st (y_neq rfl rfl) ?_
  refine rg_end ?_
  refine n_then ?_
  refine cnd rfl (fun hc0 => ?_) (fun hc0 => ?_)
  ·
    try simp only [decide_eq_true_eq, decide_eq_false_iff_not, Bool.not_eq_true', Bool.not_eq_false', Bool.and_eq_true, Bool.or_eq_true, Bool.or_eq_false_iff, Bool.cond_true_right, Bool.cond_false_right, Bool.cond_true_left, Bool.cond_false_left, ne_eq, Decidable.not_not, bne_iff_ne, beq_iff_eq, beq_eq_false_iff_ne, Bool.not_true, Bool.not_false] at hc0
    refine wp_seq ?_
    refine rg ?_
    refine st (asB rfl) ?_
    refine rg_end ?_
    refine n_then ?_
    refine wp_ret ?_
    refine r_then (ret1 (v := (.bool _)) Try.results28 rfl ?_)
    exact ⟨vb (by simp; intro h; subst h; omega), hE⟩
  ·
    try simp only [decide_eq_true_eq, decide_eq_false_iff_not, Bool.not_eq_true', Bool.not_eq_false', Bool.and_eq_true, Bool.or_eq_true, Bool.or_eq_false_iff, Bool.cond_true_right, Bool.cond_false_right, Bool.cond_true_left, Bool.cond_false_left, ne_eq, Decidable.not_not, bne_iff_ne, beq_iff_eq, beq_eq_false_iff_ne, Bool.not_true, Bool.not_false] at hc0
    have hln : a.length = b.length := by omega
    refine wp_skip ?_
    refine n_then ?_
    refine wp_seq ?_
    refine wp_seq ?_
    refine rg ?_
    refine st (mvS rfl) ?_
    refine st (y_len Try.underlying22 rfl) ?_
    refine st (mvI rfl) ?_
    refine rg_end ?_
    refine n_then ?_
    refine wp_block ?_
    refine lp (γ := Nat) [4, 5, 13, 14, 15, 16, 17, 18, 19, 20, 21, 22, 23, 24, 25] (fun k => [(13, .int .i64 (k : Int))]) (fun k w_ => Ext w w_ ∧ (k : Int) ≤ a.length ∧ ∀ q : Nat, q < k → el a q = el b q) (fun k => a.length - k) 0 ⟨rfl, trivial⟩ ⟨Out.refl _ _ _, by omega, fun q hq => by omega⟩ ?_
    rintro k hav_ w1 ⟨ho2, hk, hall⟩
    have hlp0 := ho2
    have hz3 := ho2.size
    replace hA := hA.ext ho2
    replace hB := hB.ext ho2
    replace hE := hE.step ho2 (.inl (Nat.le_refl _))
    refine wp_seq ?_
    refine rg ?_
    refine st (y_lss rfl rfl) ?_
    refine rg_end ?_
    refine n_then ?_
    refine wp_seq ?_
    refine cnd rfl (fun hc1 => ?_) (fun hc1 => ?_)
    ·
      try simp only [decide_eq_true_eq, decide_eq_false_iff_not, Bool.not_eq_true', Bool.not_eq_false', Bool.and_eq_true, Bool.or_eq_true, Bool.or_eq_false_iff, Bool.cond_true_right, Bool.cond_false_right, Bool.cond_true_left, Bool.cond_false_left, ne_eq, Decidable.not_not, bne_iff_ne, beq_iff_eq, beq_eq_false_iff_ne, Bool.not_true, Bool.not_false] at hc1
      refine wp_skip ?_
      refine n_then ?_
      refine wp_seq ?_
      refine wp_block ?_
      refine wp_seq ?_
      refine rg ?_
      refine st (mvI rfl) ?_
      refine st (asI rfl) ?_
      refine rg_end ?_
      refine n_then ?_
      refine wp_seq ?_
      refine rgD 8 (fun w_ => Ext w1 w_) (fun i => false) mixed (by kernel_rfl) ?_
      intro w4 ho5 hs6
      refine ⟨ho5, ?_⟩
      have hx7 := ho5
      refine tn rfl (fun _ hG => mvS rfl) ?_
      refine tn rfl (fun _ hG => mvI rfl) ?_
      refine tn rfl (fun _ hG => y_ix (hA.ext hG) sl22 rfl (rfl) rfl (by omega) (by omega)) ?_
      refine tn rfl (fun _ hG => y_le (hA.ext hG) na3 rfl (by omega) (by omega) rfl) ?_
      refine tn rfl (fun _ hG => mvS rfl) ?_
      refine tn rfl (fun _ hG => mvI rfl) ?_
      refine tn rfl (fun _ hG => y_ix (hB.ext hG) sl22 rfl (rfl) rfl (by omega) (by omega)) ?_
      refine tn rfl (fun _ hG => y_le (hB.ext hG) na3 rfl (by omega) (by omega) rfl) ?_
      refine t_end ?_
      have hz8 := hx7.size
      replace hA := hA.ext hx7
      replace hB := hB.ext hx7
      replace hE := hE.step hx7 (.inl (Nat.le_refl _))
      replace hlp0 := hlp0.step hx7 (.inl (Nat.le_refl _))
      refine st (y_neq rfl rfl) ?_
      refine rg_end ?_
      refine n_then ?_
      refine cnd rfl (fun hc2 => ?_) (fun hc2 => ?_)
      ·
        try simp only [decide_eq_true_eq, decide_eq_false_iff_not, Bool.not_eq_true', Bool.not_eq_false', Bool.and_eq_true, Bool.or_eq_true, Bool.or_eq_false_iff, Bool.cond_true_right, Bool.cond_false_right, Bool.cond_true_left, Bool.cond_false_left, ne_eq, Decidable.not_not, bne_iff_ne, beq_iff_eq, beq_eq_false_iff_ne, Bool.not_true, Bool.not_false] at hc2
        refine wp_seq ?_
        refine rg ?_
        refine st (asB rfl) ?_
        refine rg_end ?_
        refine n_then ?_
        refine wp_ret ?_
        refine r_blk (r_then (r_then (r_blk (r_then (ret1 (v := (.bool _)) Try.results28 rfl ?_)))))
        exact ⟨vb (by simp; intro h; subst h; exact absurd rfl hc2), hE⟩
      ·
        try simp only [decide_eq_true_eq, decide_eq_false_iff_not, Bool.not_eq_true', Bool.not_eq_false', Bool.and_eq_true, Bool.or_eq_true, Bool.or_eq_false_iff, Bool.cond_true_right, Bool.cond_false_right, Bool.cond_true_left, Bool.cond_false_left, ne_eq, Decidable.not_not, bne_iff_ne, beq_iff_eq, beq_eq_false_iff_ne, Bool.not_true, Bool.not_false] at hc2
        refine wp_skip ?_
        refine n_blk ?_
        refine n_then ?_
        refine rg ?_
        refine st (y_add rfl rfl (by omega)) ?_
        refine st (mvI rfl) ?_
        refine rg_end ?_
        exact n_then ⟨k + 1, _, rfl, same_lk rfl (same_h0), ⟨rfl, trivial⟩, ⟨hlp0, by omega, fun q hq => by (by_cases e : q = k; subst e; assumption; exact hall q (by omega))⟩, by first | omega | (dsimp only; omega)⟩
    ·
      try simp only [decide_eq_true_eq, decide_eq_false_iff_not, Bool.not_eq_true', Bool.not_eq_false', Bool.and_eq_true, Bool.or_eq_true, Bool.or_eq_false_iff, Bool.cond_true_right, Bool.cond_false_right, Bool.cond_true_left, Bool.cond_false_left, ne_eq, Decidable.not_not, bne_iff_ne, beq_iff_eq, beq_eq_false_iff_ne, Bool.not_true, Bool.not_false] at hc1
      refine wp_exit ?_
      refine e_then (e_then (e_blk (?_)))
      refine n_then ?_
      refine wp_seq ?_
      refine rg ?_
      refine st (asB rfl) ?_
      refine rg_end ?_
      refine n_then ?_
      refine wp_ret ?_
      refine ret1 (v := (.bool _)) Try.results28 rfl ?_
      exact ⟨vb (by simp; exact list_ext_el hln (fun q hq => hall q (by omega))), hE⟩

/-- What is kept: it lies apart from the block 'bs' and from the blocks of two slices. -/
structure Kp {α : Type} (enc : α → List Value) (sz bs tp : Nat) (w : World) (sa pa ad : Option Addr) (l : List α) : Prop where
  ex : ∃ la ha, Sl enc sz la ha w ad l ∧ ha ≤ tp ∧ (ha = 0 ∨ (ha = la + 1 ∧ la ≠ bs ∧ (hi1 sa ≤ la ∨ la < blk sa) ∧ (hi1 pa ≤ la ∨ la < blk pa)))
section
variable {α : Type} {enc : α → List Value} {sz bs tp : Nat} {w w' : World} {sa pa ad : Option Addr} {l : List α}
theorem Kp.out {a b : Nat} (h : Kp enc sz bs tp w sa pa ad l) (ho : Out a b w w') (hs : tp ≤ a ∨ b ≤ a ∨ (a = bs ∧ b = bs + 1) ∨ (a = blk sa ∧ b ≤ hi1 sa) ∨ (a = blk pa ∧ b ≤ hi1 pa)) : Kp enc sz bs tp w' sa pa ad l := by
  obtain ⟨la, ha, h1, h2, h3⟩ := h.ex
  have e1 := hi1_le sa
  have e2 := hi1_le pa
  exact ⟨la, ha, h1.out ho (by omega), h2, h3⟩
theorem Kp.ext (h : Kp enc sz bs tp w sa pa ad l) (ho : Ext w w') : Kp enc sz bs tp w' sa pa ad l := h.out ho (.inr (.inl (Nat.le_refl _)))
theorem Kp.wide {tp' : Nat} (h : Kp enc sz bs tp w sa pa ad l) (ht : tp ≤ tp') : Kp enc sz bs tp' w sa pa ad l := by
  obtain ⟨la, ha, h1, h2, h3⟩ := h.ex
  exact ⟨la, ha, h1, by omega, h3⟩
theorem Kp.setA {z : Nat} {sa1 : Option Addr} (h : Kp enc sz bs tp w sa pa ad l) (hat : (blk sa1 = blk sa ∧ hi1 sa1 = hi1 sa) ∨ (blk sa1 = z ∧ hi1 sa1 = z + 1)) (hz : tp ≤ z) : Kp enc sz bs tp w sa1 pa ad l := by
  obtain ⟨la, ha, h1, h2, h3⟩ := h.ex
  exact ⟨la, ha, h1, h2, by omega⟩
theorem Kp.setP {z : Nat} {pa1 : Option Addr} (h : Kp enc sz bs tp w sa pa ad l) (hat : (blk pa1 = blk pa ∧ hi1 pa1 = hi1 pa) ∨ (blk pa1 = z ∧ hi1 pa1 = z + 1)) (hz : tp ≤ z) : Kp enc sz bs tp w sa pa1 ad l := by
  obtain ⟨la, ha, h1, h2, h3⟩ := h.ex
  exact ⟨la, ha, h1, h2, by omega⟩
theorem Kp.dropA (h : Kp enc sz bs tp w sa pa ad l) : Kp enc sz bs tp w none pa ad l := by
  obtain ⟨la, ha, h1, h2, h3⟩ := h.ex
  exact ⟨la, ha, h1, h2, by
    rcases h3 with h3 | ⟨h3, h4, h5, h6⟩
    · exact .inl h3
    · exact .inr ⟨h3, h4, .inl (Nat.zero_le _), h6⟩⟩
theorem Kp.nil : Kp enc sz bs tp w sa pa ad ([] : List α) := ⟨0, 0, ⟨fun q => absurd rfl q, fun i x hx => by simp at hx⟩, Nat.zero_le _, .inl rfl⟩
theorem Kp.own {E : TypeId} {z c : Nat} (h : Ow E enc sz z tp w ad c l) (hb : hi1 ad = 0 ∨ blk ad ≠ bs) (hs : hi1 ad = 0 ∨ hi1 sa ≤ blk ad ∨ blk ad < blk sa) (hp : hi1 ad = 0 ∨ hi1 pa ≤ blk ad ∨ blk ad < blk pa) : Kp enc sz bs tp w sa pa ad l := by
  have hr := h.rng
  rcases h.form with ⟨h1, h2, h3⟩ | ⟨g, h1, h2, h3, h4⟩
  · have : l = [] := List.eq_nil_of_length_eq_zero h2
    subst this; exact Kp.nil
  · have e : blk ad = g := by rw [h1]; rfl
    have e2 : hi1 ad = g + 1 := by rw [h1]; rfl
    refine ⟨g, g + 1, ⟨fun q => ⟨((h.sl).plain q).1, by omega, by omega⟩, h.sl.cell⟩, by omega, .inr ⟨rfl, by omega, by omega, by omega⟩⟩
theorem Kp.sl (h : Kp enc sz bs tp w sa pa ad l) : Sl enc sz 0 tp w ad l := by
  obtain ⟨la, ha, h1, h2, h3⟩ := h.ex
  exact h1.wide (Nat.zero_le _) h2
end
structure PtK (bs tp : Nat) (w : World) (sa pa : Option Addr) (l : List Sg) : Prop where
  pt : ∀ s ∈ l, Kp encI 1 bs tp w sa pa s.pa s.pts
structure RwK (bs tp : Nat) (w : World) (sa pa : Option Addr) (l : List Pw) : Prop where
  rw : ∀ r ∈ l, Kp encSg 4 bs tp w sa pa r.a r.st ∧ PtK bs tp w sa pa r.st
section
variable {bs tp : Nat} {w w' : World} {sa pa : Option Addr} {a b : Nat}
theorem PtK.out {l : List Sg} (h : PtK bs tp w sa pa l) (ho : Out a b w w') (hs : tp ≤ a ∨ b ≤ a ∨ (a = bs ∧ b = bs + 1) ∨ (a = blk sa ∧ b ≤ hi1 sa) ∨ (a = blk pa ∧ b ≤ hi1 pa)) : PtK bs tp w' sa pa l := ⟨fun s h1 => (h.pt s h1).out ho hs⟩
theorem PtK.ext {l : List Sg} (h : PtK bs tp w sa pa l) (ho : Ext w w') : PtK bs tp w' sa pa l := ⟨fun s h1 => (h.pt s h1).ext ho⟩
theorem RwK.out {l : List Pw} (h : RwK bs tp w sa pa l) (ho : Out a b w w') (hs : tp ≤ a ∨ b ≤ a ∨ (a = bs ∧ b = bs + 1) ∨ (a = blk sa ∧ b ≤ hi1 sa) ∨ (a = blk pa ∧ b ≤ hi1 pa)) : RwK bs tp w' sa pa l := ⟨fun s h1 => ⟨(h.rw s h1).1.out ho hs, (h.rw s h1).2.out ho hs⟩⟩
theorem RwK.ext {l : List Pw} (h : RwK bs tp w sa pa l) (ho : Ext w w') : RwK bs tp w' sa pa l := ⟨fun s h1 => ⟨(h.rw s h1).1.ext ho, (h.rw s h1).2.ext ho⟩⟩
theorem PtK.upA {tp' z : Nat} {sa1 : Option Addr} {l : List Sg} (h : PtK bs tp w sa pa l) (hat : (blk sa1 = blk sa ∧ hi1 sa1 = hi1 sa) ∨ (blk sa1 = z ∧ hi1 sa1 = z + 1)) (hz : tp ≤ z) (ht : tp ≤ tp') : PtK bs tp' w sa1 pa l := ⟨fun s h1 => ((h.pt s h1).setA hat hz).wide ht⟩
theorem RwK.upA {tp' z : Nat} {sa1 : Option Addr} {l : List Pw} (h : RwK bs tp w sa pa l) (hat : (blk sa1 = blk sa ∧ hi1 sa1 = hi1 sa) ∨ (blk sa1 = z ∧ hi1 sa1 = z + 1)) (hz : tp ≤ z) (ht : tp ≤ tp') : RwK bs tp' w sa1 pa l := ⟨fun s h1 => ⟨((h.rw s h1).1.setA hat hz).wide ht, (h.rw s h1).2.upA hat hz ht⟩⟩
theorem PtK.upP {tp' z : Nat} {pa1 : Option Addr} {l : List Sg} (h : PtK bs tp w sa pa l) (hat : (blk pa1 = blk pa ∧ hi1 pa1 = hi1 pa) ∨ (blk pa1 = z ∧ hi1 pa1 = z + 1)) (hz : tp ≤ z) (ht : tp ≤ tp') : PtK bs tp' w none pa1 l := ⟨fun s h1 => (((h.pt s h1).setP hat hz).wide ht).dropA⟩
theorem RwK.upP {tp' z : Nat} {pa1 : Option Addr} {l : List Pw} (h : RwK bs tp w sa pa l) (hat : (blk pa1 = blk pa ∧ hi1 pa1 = hi1 pa) ∨ (blk pa1 = z ∧ hi1 pa1 = z + 1)) (hz : tp ≤ z) (ht : tp ≤ tp') : RwK bs tp' w none pa1 l := ⟨fun s h1 => ⟨(((h.rw s h1).1.setP hat hz).wide ht).dropA, (h.rw s h1).2.upP hat hz ht⟩⟩
theorem PtK.wide {tp' : Nat} {l : List Sg} (h : PtK bs tp w sa pa l) (ht : tp ≤ tp') : PtK bs tp' w sa pa l := ⟨fun s h1 => (h.pt s h1).wide ht⟩
theorem RwK.wide {tp' : Nat} {l : List Pw} (h : RwK bs tp w sa pa l) (ht : tp ≤ tp') : RwK bs tp' w sa pa l := ⟨fun s h1 => ⟨(h.rw s h1).1.wide ht, (h.rw s h1).2.wide ht⟩⟩
theorem PtK.snoc {l : List Sg} {s : Sg} (h : PtK bs tp w sa pa l) (k : Kp encI 1 bs tp w sa pa s.pa s.pts) : PtK bs tp w sa pa (l ++ [s]) := ⟨fun x hx => by
  rcases List.mem_append.1 hx with q | q
  · exact h.pt x q
  · rw [List.mem_singleton.1 q]; exact k⟩
theorem RwK.snoc {l : List Pw} {r : Pw} (h : RwK bs tp w sa pa l) (k : Kp encSg 4 bs tp w sa pa r.a r.st) (k2 : PtK bs tp w sa pa r.st) : RwK bs tp w sa pa (l ++ [r]) := ⟨fun x hx => by
  rcases List.mem_append.1 hx with q | q
  · exact h.rw x q
  · rw [List.mem_singleton.1 q]; exact ⟨k, k2⟩⟩
theorem RwK.nil : RwK bs tp w sa pa [] := ⟨fun r hr => by cases hr⟩
theorem PtK.nil : PtK bs tp w sa pa [] := ⟨fun r hr => by cases hr⟩
end
/-- Stages and rows as Paths makes them. -/
structure StS (s : Sg) : Prop where
  s0 : 0 ≤ s.sec
  s1 : s.sec ≤ 4
  p1 : s.pts.length ≤ 1
  pr : ∀ p ∈ s.pts, 5 ≤ p ∧ p ≤ 6
  m0 : 0 ≤ s.mn
  m1 : s.mn ≤ 20
  n0 : 0 ≤ s.nt
  n1 : s.nt ≤ 60
def RwS (st : List Sg) : Prop := (∀ s ∈ st, StS s) ∧ ∀ j : Nat, 0 < j → j < st.length → (el st ((j : Int) - 1)).sec ≠ (el st (j : Int)).sec
theorem el_app1 {α : Type} [Inhabited α] {l m : List α} {i : Int} (h0 : 0 ≤ i) (h1 : i < l.length) : el (l ++ m) i = el l i := by
  simp only [el, List.getD_eq_getElem?_getD]
  rw [List.getElem?_append_left (by omega)]
theorem el_appE {α : Type} [Inhabited α] {l : List α} {x : α} : el (l ++ [x]) (l.length : Int) = x := by simp [el]
theorem RwS.snoc {st : List Sg} {s : Sg} (h : RwS st) (hs : StS s) (ha : 0 < st.length → (el st ((st.length : Int) - 1)).sec ≠ s.sec) : RwS (st ++ [s]) := by
  refine ⟨fun x hx => ?_, fun j h0 h1 => ?_⟩
  · rcases List.mem_append.1 hx with q | q
    · exact h.1 x q
    · rw [List.mem_singleton.1 q]; exact hs
  · rw [List.length_append, List.length_singleton] at h1
    by_cases e : j = st.length
    · subst e
      rw [el_appE, el_app1 (by omega) (by omega)]; exact ha h0
    · rw [el_app1 (by omega) (by omega), el_app1 (by omega) (by omega)]; exact h.2 j h0 (by omega)
structure SmP (rows : List Pw) : Prop where
  n1 : 1 ≤ rows.length
  n3 : rows.length ≤ 3
  row : ∀ r ∈ rows, 1 ≤ r.st.length ∧ r.st.length ≤ 4 ∧ RwS r.st
theorem StS.ok {s : Sg} (h : StS s) : SgOk s := by
  have h1 := h.s0
  have h2 := h.s1
  have h3 := h.p1
  have h4 := h.m0
  have h5 := h.m1
  have h6 := h.n0
  have h7 := h.n1
  refine ⟨h1, by omega, by omega, h4, by omega, h6, by omega, fun q hq => ?_⟩
  have := h.pr _ (el_mem (l := s.pts) (i := (q : Int)) (by omega) (by omega))
  exact ⟨by omega, by omega, by omega, fun q0 => by omega⟩
theorem va_small {rows : List Pw} (h3 : rows.length ≤ 10) (hr : ∀ r ∈ rows, 1 ≤ r.st.length ∧ r.st.length ≤ 4 ∧ RwS r.st) : VaP rows := by
  refine ⟨h3, fun r h1 => ?_, fun s hs s' hs' hm => ?_⟩
  · obtain ⟨q1, q2, q3⟩ := hr r h1
    exact ⟨q1, by omega, fun j hj => (q3.1 _ (el_mem (by omega) (by omega))).ok, fun j h0 h1 => q3.2 j h0 h1⟩
  · obtain ⟨r, k1, k2⟩ := all_inv hs
    obtain ⟨r', k3, k4⟩ := all_inv hs'
    have a1 := ((hr r k1).2.2.1 s k2).s1
    have a2 := ((hr r' k3).2.2.1 s' k4).pr _ hm
    omega
theorem SmP.va {rows : List Pw} (h : SmP rows) : VaP rows := va_small (by have := h.n3; omega) h.row
theorem mul_small {a b : Int} (h0 : 0 ≤ a) (h1 : a < 3) (h2 : 0 ≤ b) (h3 : b < 30) : 0 ≤ a * b ∧ a * b ≤ 58 := by
  have : a = 0 ∨ a = 1 ∨ a = 2 := by omega
  rcases this with rfl | rfl | rfl <;> omega
theorem rem5 {a : Int} (h0 : 0 ≤ a) (h1 : a < 5) : 0 ≤ (a + 1).tmod 5 ∧ (a + 1).tmod 5 ≤ 4 ∧ (a + 1).tmod 5 ≠ a := by
  rw [Int.tmod_eq_emod_of_nonneg (by omega)]; omega

set_option maxHeartbeats 4000000 in
set_option maxRecDepth 100000 in
theorem keep2_Paths_ok (al : Option Addr) (cl : Nat) (l : List Int) (ll hl : Nat) (w : World) (hL : Ints ll hl w al l) (hn : (l.length : Int) ≤ 9223372036854775807) : Cal Try.prog 13 [.slice al l.length cl] w (fun v w' => ∃ rows ap cp, v = .slice ap rows.length cp ∧ SmP rows ∧ rows.length ≤ cp ∧ PIn 0 w'.heap.size w' ap rows ∧ Ext w w') := by
  replace hL := Ints.full hL
  have hE : Out 0 0 w w := Out.refl _ _ w
  refine enter Try.func13 rfl Try.ntmps13 rfl ?_
  refine wp_seq ?_
  refine rg ?_
  refine st (asS rfl) ?_
  refine rg_end ?_
  refine n_then ?_
  refine wp_seq ?_
  refine rg ?_
  refine st (mvS rfl) ?_
  refine sc cl33 (keep_From_ok _ _ _ _ _ _ hL hn) rfl ?_
  rintro v5 w1 ⟨bs, rfl, hbs, hzs, hS, ho2⟩
  have hz6 := ho2.size
  replace hL := hL.ext ho2
  replace hE := hE.step ho2 (.inl (Nat.le_refl _))
  refine st (asP rfl) ?_
  refine rg_end ?_
  refine n_then ?_
  refine wp_seq ?_
  refine rg ?_
  refine st (asS rfl) ?_
  refine rg_end ?_
  refine n_then ?_
  refine wp_seq ?_
  refine wp_seq ?_
  refine rg ?_
  refine st (mvP rfl) ?_
  refine sc cl34 (keep_Next_ok _ _ _ _ _ hS (by omega) (by omega) (by omega)) rfl ?_
  rintro v11 w7 ⟨k0, rfl, k0_0, k0_1, hS, ho8⟩
  have hz12 := ho8.size
  replace hL := hL.out ho8 (by first | omega | (simp only [blk_some, hi1_some] at *; omega))
  replace hE := hE.step ho8 (by first | omega | (simp only [blk_some, hi1_some] at *; omega))
  refine st (y_add rfl rfl (by omega)) ?_
  refine st (asI rfl) ?_
  refine rg_end ?_
  refine n_then ?_
  refine wp_block ?_
  obtain ⟨z0, hz0⟩ : ∃ z, z = w7.heap.size := ⟨_, rfl⟩
  refine lp (γ := List Pw × Option Addr × Nat × Int) [4, 5, 6, 7, 8, 14, 15, 16, 17, 18, 19, 20, 21, 22, 23, 24, 25, 26, 27, 28, 29, 30, 31, 32, 33, 34, 35, 36, 37, 38, 39, 40, 41, 42, 43, 44, 45, 46, 47, 48, 49, 50, 51, 52, 53, 54, 55, 56, 57, 58, 59, 60, 61, 62, 63, 64, 65, 66, 67, 68, 69, 70, 71, 72, 73] (fun ⟨rows, ao, co, k⟩ => [(5, .int .i64 k), (4, .slice ao rows.length co)]) (fun ⟨rows, ao, co, k⟩ w_ => Out bs z0 w7 w_ ∧ 0 ≤ k ∧ rows.length + k ≤ 3 ∧ 1 ≤ rows.length + k ∧ (∀ r ∈ rows, 1 ≤ r.st.length ∧ r.st.length ≤ 4 ∧ RwS r.st) ∧ Src 0 w.heap.size bs w_ ∧ Ow 35 encPw 1 (bs + 1) w_.heap.size w_ ao co rows ∧ RwK bs w_.heap.size w_ none ao rows) (fun ⟨rows, ao, co, k⟩ => k.toNat) ([], none, 0, _) ⟨rfl, rfl, trivial⟩ ⟨Out.refl _ _ _, by omega, by simp; omega, by simp; omega, (fun r hr => by cases hr), hS, Ow.nil (fun _ => rfl), RwK.nil⟩ ?_
  rintro ⟨rows, ao, co, k⟩ hav_ w13 ⟨ho14, hk_, hsum, hsum1, hsm, hS, ho_, hrk⟩
  have hlp0 := ho14
  have hz15 := ho14.size
  replace hL := hL.out ho14 (by first | omega | (simp only [blk_some, hi1_some] at *; omega))
  replace hE := hE.step ho14 (by first | omega | (simp only [blk_some, hi1_some] at *; omega))
  have hor := ho_.rng
  refine wp_seq ?_
  refine wp_seq ?_
  refine rg ?_
  refine st (mvI rfl) ?_
  refine st (y_gtr rfl rfl) ?_
  refine rg_end ?_
  refine n_then ?_
  refine cnd rfl (fun hc0 => ?_) (fun hc0 => ?_)
  ·
    try simp only [decide_eq_true_eq, decide_eq_false_iff_not, Bool.not_eq_true', Bool.not_eq_false', Bool.and_eq_true, Bool.or_eq_true, Bool.or_eq_false_iff, Bool.cond_true_right, Bool.cond_false_right, Bool.cond_true_left, Bool.cond_false_left, ne_eq, Decidable.not_not, bne_iff_ne, beq_iff_eq, beq_eq_false_iff_ne, Bool.not_true, Bool.not_false] at hc0
    refine wp_skip ?_
    refine n_then ?_
    refine wp_seq ?_
    refine wp_block ?_
    refine wp_seq ?_
    refine rg ?_
    refine st (asS rfl) ?_
    refine rg_end ?_
    refine n_then ?_
    refine wp_seq ?_
    refine wp_seq ?_
    refine rg ?_
    refine st (mvP rfl) ?_
    refine sc cl34 (keep_Next_ok _ _ _ _ _ hS (by omega) (by omega) (by omega)) rfl ?_
    rintro v20 w16 ⟨q0, rfl, q0_0, q0_1, hS, ho17⟩
    have hz21 := ho17.size
    replace hL := hL.out ho17 (by first | omega | (simp only [blk_some, hi1_some] at *; omega))
    replace hE := hE.step ho17 (by first | omega | (simp only [blk_some, hi1_some] at *; omega))
    have hrnho_ := ho_.rng
    replace ho_ := ho_.out ho17 (by first | omega | (simp only [blk_some, hi1_some] at *; omega))
    replace hrk := hrk.out ho17 (by first | omega | (simp only [blk_some, hi1_some] at *; omega))
    replace hlp0 := hlp0.step ho17 (by first | omega | (simp only [blk_some, hi1_some] at *; omega))
    refine st (y_add rfl rfl (by omega)) ?_
    refine st (asI rfl) ?_
    refine rg_end ?_
    refine n_then ?_
    refine wp_block ?_
    obtain ⟨z1, hz1⟩ : ∃ z, z = w16.heap.size := ⟨_, rfl⟩
    refine lp (γ := List Sg × Option Addr × Nat × Int) [6, 7, 8, 21, 22, 23, 24, 25, 26, 27, 28, 29, 30, 31, 32, 33, 34, 35, 36, 37, 38, 39, 40, 41, 42, 43, 44, 45, 46, 47, 48, 49, 50, 51, 52, 53, 54, 55, 56, 57, 58, 59, 60, 61, 62, 63, 64, 65, 66, 67, 68, 69] (fun ⟨sgs, ar, cr, q⟩ => [(7, .int .i64 q), (6, .slice ar sgs.length cr)]) (fun ⟨sgs, ar, cr, q⟩ w_ => Out bs z1 w16 w_ ∧ 0 ≤ q ∧ sgs.length + q ≤ 4 ∧ 1 ≤ sgs.length + q ∧ RwS sgs ∧ Src 0 w.heap.size bs w_ ∧ Ow 44 encSg 4 (bs + 1) w_.heap.size w_ ar cr sgs ∧ PtK bs w_.heap.size w_ ar ao sgs ∧ Ow 35 encPw 1 (bs + 1) w_.heap.size w_ ao co rows ∧ RwK bs w_.heap.size w_ ar ao rows ∧ (hi1 ar ≤ blk ao ∨ hi1 ao ≤ blk ar)) (fun ⟨sgs, ar, cr, q⟩ => q.toNat) ([], none, 0, _) ⟨rfl, rfl, trivial⟩ ⟨Out.refl _ _ _, by omega, by simp; omega, by simp; omega, ⟨(fun s hs => by cases hs), (fun j _ hj => by simp at hj)⟩, hS, Ow.nil (fun _ => rfl), PtK.nil, ho_.wide (by omega), hrk.wide (by omega), .inl (Nat.zero_le _)⟩ ?_
    rintro ⟨sgs, ar, cr, q⟩ hav_ w22 ⟨ho23, hq_, hqs, hqs1, hRw, hS, hp, hpt, ho_, hrk, dsp⟩
    have hlp1 := ho23
    have hz24 := ho23.size
    replace hL := hL.out ho23 (by first | omega | (simp only [blk_some, hi1_some] at *; omega))
    replace hE := hE.step ho23 (by first | omega | (simp only [blk_some, hi1_some] at *; omega))
    replace hlp0 := hlp0.stepT ho23 (Nat.le_refl _) (by omega)
    have hpr := hp.rng
    have hor2 := ho_.rng
    refine wp_seq ?_
    refine wp_seq ?_
    refine rg ?_
    refine st (mvI rfl) ?_
    refine st (y_gtr rfl rfl) ?_
    refine rg_end ?_
    refine n_then ?_
    refine cnd rfl (fun hc1 => ?_) (fun hc1 => ?_)
    ·
      try simp only [decide_eq_true_eq, decide_eq_false_iff_not, Bool.not_eq_true', Bool.not_eq_false', Bool.and_eq_true, Bool.or_eq_true, Bool.or_eq_false_iff, Bool.cond_true_right, Bool.cond_false_right, Bool.cond_true_left, Bool.cond_false_left, ne_eq, Decidable.not_not, bne_iff_ne, beq_iff_eq, beq_eq_false_iff_ne, Bool.not_true, Bool.not_false] at hc1
      refine wp_skip ?_
      refine n_then ?_
      refine wp_seq ?_
      refine wp_block ?_
      refine wp_seq ?_
      refine rg ?_
      refine st (mvP rfl) ?_
      refine sc cl34 (keep_Next_ok _ _ _ _ _ hS (by omega) (by omega) (by omega)) rfl ?_
      rintro v29 w25 ⟨a1, rfl, a1_0, a1_1, hS, ho26⟩
      have hz30 := ho26.size
      replace hL := hL.out ho26 (by first | omega | (simp only [blk_some, hi1_some] at *; omega))
      replace hE := hE.step ho26 (by first | omega | (simp only [blk_some, hi1_some] at *; omega))
      replace hlp0 := hlp0.step ho26 (by first | omega | (simp only [blk_some, hi1_some] at *; omega))
      have hrnhp := hp.rng
      replace hp := hp.out ho26 (by first | omega | (simp only [blk_some, hi1_some] at *; omega))
      replace hpt := hpt.out ho26 (by first | omega | (simp only [blk_some, hi1_some] at *; omega))
      have hrnho_ := ho_.rng
      replace ho_ := ho_.out ho26 (by first | omega | (simp only [blk_some, hi1_some] at *; omega))
      replace hrk := hrk.out ho26 (by first | omega | (simp only [blk_some, hi1_some] at *; omega))
      replace hlp1 := hlp1.step ho26 (by first | omega | (simp only [blk_some, hi1_some] at *; omega))
      refine st (mvP rfl) ?_
      refine sc cl34 (keep_Next_ok _ _ _ _ _ hS (by omega) (by omega) (by omega)) rfl ?_
      rintro v35 w31 ⟨a2, rfl, a2_0, a2_1, hS, ho32⟩
      have hz36 := ho32.size
      replace hL := hL.out ho32 (by first | omega | (simp only [blk_some, hi1_some] at *; omega))
      replace hE := hE.step ho32 (by first | omega | (simp only [blk_some, hi1_some] at *; omega))
      replace hlp0 := hlp0.step ho32 (by first | omega | (simp only [blk_some, hi1_some] at *; omega))
      replace hp := hp.out ho32 (by first | omega | (simp only [blk_some, hi1_some] at *; omega))
      replace hpt := hpt.out ho32 (by first | omega | (simp only [blk_some, hi1_some] at *; omega))
      replace ho_ := ho_.out ho32 (by first | omega | (simp only [blk_some, hi1_some] at *; omega))
      replace hrk := hrk.out ho32 (by first | omega | (simp only [blk_some, hi1_some] at *; omega))
      replace hlp1 := hlp1.step ho32 (by first | omega | (simp only [blk_some, hi1_some] at *; omega))
      refine st (mvP rfl) ?_
      refine sc cl34 (keep_Next_ok _ _ _ _ _ hS (by omega) (by omega) (by omega)) rfl ?_
      rintro v41 w37 ⟨a3, rfl, a3_0, a3_1, hS, ho38⟩
      have hz42 := ho38.size
      replace hL := hL.out ho38 (by first | omega | (simp only [blk_some, hi1_some] at *; omega))
      replace hE := hE.step ho38 (by first | omega | (simp only [blk_some, hi1_some] at *; omega))
      replace hlp0 := hlp0.step ho38 (by first | omega | (simp only [blk_some, hi1_some] at *; omega))
      replace hp := hp.out ho38 (by first | omega | (simp only [blk_some, hi1_some] at *; omega))
      replace hpt := hpt.out ho38 (by first | omega | (simp only [blk_some, hi1_some] at *; omega))
      replace ho_ := ho_.out ho38 (by first | omega | (simp only [blk_some, hi1_some] at *; omega))
      replace hrk := hrk.out ho38 (by first | omega | (simp only [blk_some, hi1_some] at *; omega))
      replace hlp1 := hlp1.step ho38 (by first | omega | (simp only [blk_some, hi1_some] at *; omega))
      refine st (mvP rfl) ?_
      refine sc cl34 (keep_Next_ok _ _ _ _ _ hS (by omega) (by omega) (by omega)) rfl ?_
      rintro v47 w43 ⟨a4, rfl, a4_0, a4_1, hS, ho44⟩
      have hz48 := ho44.size
      replace hL := hL.out ho44 (by first | omega | (simp only [blk_some, hi1_some] at *; omega))
      replace hE := hE.step ho44 (by first | omega | (simp only [blk_some, hi1_some] at *; omega))
      replace hlp0 := hlp0.step ho44 (by first | omega | (simp only [blk_some, hi1_some] at *; omega))
      replace hp := hp.out ho44 (by first | omega | (simp only [blk_some, hi1_some] at *; omega))
      replace hpt := hpt.out ho44 (by first | omega | (simp only [blk_some, hi1_some] at *; omega))
      replace ho_ := ho_.out ho44 (by first | omega | (simp only [blk_some, hi1_some] at *; omega))
      replace hrk := hrk.out ho44 (by first | omega | (simp only [blk_some, hi1_some] at *; omega))
      replace hlp1 := hlp1.step ho44 (by first | omega | (simp only [blk_some, hi1_some] at *; omega))
      have hnt := mul_small a3_0 a3_1 a4_0 a4_1
      refine st (y_mul rfl rfl (by omega)) ?_
      generalize a3 * a4 = nt at hnt ⊢
      refine st (y_build (bld44_0_2_3 _ _ _ _) rfl) ?_
      refine sd (d_allocA zer44 ?_)
      intro bx w49 hbbx hs51 ho50 hbx
      have hz52 := ho50.size
      replace hL := hL.ext ho50
      replace hE := hE.step ho50 (.inl (Nat.le_refl _))
      replace hlp0 := hlp0.step ho50 (.inl (Nat.le_refl _))
      replace hS := hS.ext ho50
      replace hp := hp.ext ho50
      replace hpt := hpt.ext ho50
      replace ho_ := ho_.ext ho50
      replace hrk := hrk.ext ho50
      replace hlp1 := hlp1.step ho50 (.inl (Nat.le_refl _))
      refine sd0 (d_stN hbx rfl rfl sz44 rfl rfl ?_)
      intro w53 hs55 ho54 hbx'
      clear hbx; have hbx := hbx'; clear hbx'
      have hz56 := ho54.size
      replace hL := hL.out ho54 (by first | omega | (simp only [blk_some, hi1_some] at *; omega))
      replace hE := hE.step ho54 (by first | omega | (simp only [blk_some, hi1_some] at *; omega))
      replace hlp0 := hlp0.step ho54 (by first | omega | (simp only [blk_some, hi1_some] at *; omega))
      replace hS := hS.out ho54 (by first | omega | (simp only [blk_some, hi1_some] at *; omega))
      replace hp := hp.out ho54 (by first | omega | (simp only [blk_some, hi1_some] at *; omega))
      replace hpt := hpt.out ho54 (by first | omega | (simp only [blk_some, hi1_some] at *; omega))
      replace ho_ := ho_.out ho54 (by first | omega | (simp only [blk_some, hi1_some] at *; omega))
      replace hrk := hrk.out ho54 (by first | omega | (simp only [blk_some, hi1_some] at *; omega))
      replace hlp1 := hlp1.step ho54 (by first | omega | (simp only [blk_some, hi1_some] at *; omega))
      refine rg_end ?_
      refine n_then ?_
      refine wp_seq ?_
      refine wp_seq ?_
      refine rgD 13 (fun w_ => Ext w53 w_) (fun i => false) mixed (by kernel_rfl) ?_
      intro w57 ho58 hs59
      refine ⟨ho58, ?_⟩
      have hx60 := ho58
      refine tn rfl (fun _ hG => mvS rfl) ?_
      refine tn rfl (fun _ hG => y_len Try.underlying35 rfl) ?_
      refine tn rfl (fun _ hG => y_gtr rfl rfl) ?_
      refine tn rfl (fun _ hG => mvB rfl) ?_
      refine gspT 38 rfl (fun hg61 => ?_) (fun hg61 => ?_)
      ·
        have hg61n := hg61; try simp only [decide_eq_true_eq, decide_eq_false_iff_not, Bool.not_eq_true', Bool.not_eq_false', Bool.and_eq_true, Bool.or_eq_true, Bool.or_eq_false_iff, Bool.cond_true_right, Bool.cond_false_right, Bool.cond_true_left, Bool.cond_false_left, ne_eq, Decidable.not_not, bne_iff_ne, beq_iff_eq, beq_eq_false_iff_ne, Bool.not_true, Bool.not_false] at hg61n
        refine tng rfl rfl rfl hg61 (fun _ hG => mvS rfl) ?_
        refine tng rfl rfl rfl hg61 (fun _ hG => mvS rfl) ?_
        refine tng rfl rfl rfl hg61 (fun _ hG => y_len Try.underlying35 rfl) ?_
        refine tng rfl rfl rfl hg61 (fun _ hG => y_sub rfl rfl (by omega)) ?_
        refine tng rfl rfl rfl hg61 (fun _ hG => y_ix (hp.ext hG).sl sl35 rfl (rfl) rfl (by omega) (by omega)) ?_
        refine tng rfl rfl rfl hg61 (fun _ hG => y_fld fld44_0 rfl) ?_
        refine tng rfl rfl rfl hg61 (fun _ hG => y_lf (hp.ext hG).sl na3 rfl (by omega) (by omega) rfl) ?_
        refine tng rfl rfl rfl hg61 (fun _ hG => y_fld fld44_0 rfl) ?_
        refine tng rfl rfl rfl hg61 (fun _ hG => y_lb (hbx.ext hG) na3 rfl rfl) ?_
        refine t_end ?_
        have hz62 := hx60.size
        replace hL := hL.ext hx60
        replace hE := hE.step hx60 (.inl (Nat.le_refl _))
        replace hlp0 := hlp0.step hx60 (.inl (Nat.le_refl _))
        replace hS := hS.ext hx60
        replace hp := hp.ext hx60
        replace hpt := hpt.ext hx60
        replace ho_ := ho_.ext hx60
        replace hrk := hrk.ext hx60
        replace hlp1 := hlp1.step hx60 (.inl (Nat.le_refl _))
        replace hbx := hbx.ext hx60
        refine stg rfl rfl hg61 (y_eql rfl rfl) ?_
        refine st (y_pickT rfl hg61 (v := .bool _) rfl) ?_
        refine rg_end ?_
        refine n_then ?_
        refine cnd rfl (fun hc2 => ?_) (fun hc2 => ?_)
        ·
          try simp only [decide_eq_true_eq, decide_eq_false_iff_not, Bool.not_eq_true', Bool.not_eq_false', Bool.and_eq_true, Bool.or_eq_true, Bool.or_eq_false_iff, Bool.cond_true_right, Bool.cond_false_right, Bool.cond_true_left, Bool.cond_false_left, ne_eq, Decidable.not_not, bne_iff_ne, beq_iff_eq, beq_eq_false_iff_ne, Bool.not_true, Bool.not_false] at hc2
          refine rg ?_
          refine st (y_fld fld44_0 rfl) ?_
          refine st (y_lb hbx na3 rfl rfl) ?_
          refine st (y_add rfl rfl (by omega)) ?_
          refine st (y_rem rfl rfl (by decide)) ?_
          refine st (y_fld fld44_0 rfl) ?_
          refine sd0 (d_st hbx sz3 rfl rfl rfl (Nat.le_of_ble_eq_true rfl) ?_)
          intro w63 hs65 ho64 hbx'
          clear hbx; have hbx := hbx'; clear hbx'
          have hz66 := ho64.size
          replace hL := hL.out ho64 (by first | omega | (simp only [blk_some, hi1_some] at *; omega))
          replace hE := hE.step ho64 (by first | omega | (simp only [blk_some, hi1_some] at *; omega))
          replace hlp0 := hlp0.step ho64 (by first | omega | (simp only [blk_some, hi1_some] at *; omega))
          replace hS := hS.out ho64 (by first | omega | (simp only [blk_some, hi1_some] at *; omega))
          replace hp := hp.out ho64 (by first | omega | (simp only [blk_some, hi1_some] at *; omega))
          replace hpt := hpt.out ho64 (by first | omega | (simp only [blk_some, hi1_some] at *; omega))
          replace ho_ := ho_.out ho64 (by first | omega | (simp only [blk_some, hi1_some] at *; omega))
          replace hrk := hrk.out ho64 (by first | omega | (simp only [blk_some, hi1_some] at *; omega))
          replace hlp1 := hlp1.step ho64 (by first | omega | (simp only [blk_some, hi1_some] at *; omega))
          obtain ⟨sx, hsx⟩ : ∃ z, z = (a1 + 1).tmod 5 := ⟨_, rfl⟩
          replace hbx : Blk w63 bx [.int .i64 sx, .slice none 0 0, .int .i64 a2, .int .i64 nt] := by rw [hsx]; exact hbx
          have hr5 := rem5 a1_0 a1_1
          rw [← hsx] at hr5
          have hsr : 0 ≤ sx ∧ sx ≤ 4 := by omega
          have hadj : 0 < sgs.length → (el sgs ((sgs.length : Int) - 1)).sec ≠ sx := fun h => by omega
          refine rg_end ?_
          refine n_then ?_
          refine wp_seq ?_
          refine wp_seq ?_
          refine rg ?_
          refine st (mvP rfl) ?_
          refine sc cl34 (keep_Next_ok _ _ _ _ _ hS (by omega) (by omega) (by omega)) rfl ?_
          rintro v71 w67 ⟨p4, rfl, p4_0, p4_1, hS, ho68⟩
          have hz72 := ho68.size
          replace hL := hL.out ho68 (by first | omega | (simp only [blk_some, hi1_some] at *; omega))
          replace hE := hE.step ho68 (by first | omega | (simp only [blk_some, hi1_some] at *; omega))
          replace hlp0 := hlp0.step ho68 (by first | omega | (simp only [blk_some, hi1_some] at *; omega))
          replace hp := hp.out ho68 (by first | omega | (simp only [blk_some, hi1_some] at *; omega))
          replace hpt := hpt.out ho68 (by first | omega | (simp only [blk_some, hi1_some] at *; omega))
          replace ho_ := ho_.out ho68 (by first | omega | (simp only [blk_some, hi1_some] at *; omega))
          replace hrk := hrk.out ho68 (by first | omega | (simp only [blk_some, hi1_some] at *; omega))
          replace hlp1 := hlp1.step ho68 (by first | omega | (simp only [blk_some, hi1_some] at *; omega))
          replace hbx := hbx.out ho68 (by first | omega | (simp only [blk_some, hi1_some] at *; omega))
          refine st (y_eql rfl rfl) ?_
          refine rg_end ?_
          refine n_then ?_
          refine cnd rfl (fun hc3 => ?_) (fun hc3 => ?_)
          ·
            try simp only [decide_eq_true_eq, decide_eq_false_iff_not, Bool.not_eq_true', Bool.not_eq_false', Bool.and_eq_true, Bool.or_eq_true, Bool.or_eq_false_iff, Bool.cond_true_right, Bool.cond_false_right, Bool.cond_true_left, Bool.cond_false_left, ne_eq, Decidable.not_not, bne_iff_ne, beq_iff_eq, beq_eq_false_iff_ne, Bool.not_true, Bool.not_false] at hc3
            refine rgD 6 (fun w_ => Out bs (bs + 1) w67 w_) (fun i => Nat.beq i 3 || Nat.beq i 5) mixed (by kernel_rfl) ?_
            intro w73 ho74 hs75
            refine ⟨ho74.wide (.inl (Nat.le_refl _)), ?_⟩
            have hx76 := ho74.wide (a' := bs) (b' := (bs + 1)) (.inl (Nat.le_refl _))
            replace hS := hS.ext ho74
            refine tn rfl (fun _ hG => y_fld fld44_1 rfl) ?_
            refine tn rfl (fun _ hG => y_lb (hbx.out hG (by first | omega | (simp only [blk_some, hi1_some] at *; omega))) na22 rfl rfl) ?_
            refine tn rfl (fun _ hG => mvP rfl) ?_
            refine tc rfl cl34 (keep_Next_ok _ _ _ _ _ hS (by omega) (by omega) (by omega)) rfl ?_
            rintro v81 w77 ⟨v5, rfl, v5_0, v5_1, hS, ho78⟩
            have hx82 : Out bs (bs + 1) w67 w77 := hx76.step ho78 (by omega)
            have hz83 := ho78.size
            refine ⟨hx82, ?_⟩
            refine tn rfl (fun _ hG => y_add rfl rfl (by omega)) ?_
            refine td rfl (d_bs (bsl22_1 _ _) rfl ?_)
            intro b5 w84 hbb5 hs86 ho85 hb5
            have hx87 := hx82.step ho85 (.inl (Nat.le_refl _))
            have hz88 := ho85.size
            replace hS := hS.ext ho85
            refine ⟨hx87, ?_⟩
            refine t_end ?_
            have hz89 := hx87.size
            replace hL := hL.out hx87 (by first | omega | (simp only [blk_some, hi1_some] at *; omega))
            replace hE := hE.step hx87 (by first | omega | (simp only [blk_some, hi1_some] at *; omega))
            replace hlp0 := hlp0.step hx87 (by first | omega | (simp only [blk_some, hi1_some] at *; omega))
            replace hp := hp.out hx87 (by first | omega | (simp only [blk_some, hi1_some] at *; omega))
            replace hpt := hpt.out hx87 (by first | omega | (simp only [blk_some, hi1_some] at *; omega))
            replace ho_ := ho_.out hx87 (by first | omega | (simp only [blk_some, hi1_some] at *; omega))
            replace hrk := hrk.out hx87 (by first | omega | (simp only [blk_some, hi1_some] at *; omega))
            replace hlp1 := hlp1.step hx87 (by first | omega | (simp only [blk_some, hi1_some] at *; omega))
            replace hbx := hbx.out hx87 (by first | omega | (simp only [blk_some, hi1_some] at *; omega))
            obtain ⟨z6, hz6⟩ : ∃ z, z = w84.heap.size := ⟨_, rfl⟩
            have hpts := Ow.nil (E := 3) (sz := 1) (enc := encI) (lo := z6) (hi := 0) (w := w84) (fun _ => rfl)
            have hrhpts := hpts.rng
            refine sd (d_app (xs := [5 + v5]) hpts sl22 infoz3 (by decide) rfl rfl rfl rfl (hb5) (fun _ => rfl) (by simp; unfold maxLen; omega) (by simp <;> omega) (by omega) (Nat.zero_le _) ?_)
            intro ap2 pc2 w90 ho91 hpts'
            have hs92 := ho91.size
            clear hpts; have hpts := hpts'; clear hpts'
            have hz95 := ho91.size
            replace hL := hL.out ho91 (by first | omega | (simp only [blk_some, hi1_some] at *; omega))
            replace hE := hE.step ho91 (by first | omega | (simp only [blk_some, hi1_some] at *; omega))
            replace hlp0 := hlp0.step ho91 (by first | omega | (simp only [blk_some, hi1_some] at *; omega))
            replace hS := hS.out ho91 (by first | omega | (simp only [blk_some, hi1_some] at *; omega))
            replace hp := hp.out ho91 (by first | omega | (simp only [blk_some, hi1_some] at *; omega))
            replace hpt := hpt.out ho91 (by first | omega | (simp only [blk_some, hi1_some] at *; omega))
            replace ho_ := ho_.out ho91 (by first | omega | (simp only [blk_some, hi1_some] at *; omega))
            replace hrk := hrk.out ho91 (by first | omega | (simp only [blk_some, hi1_some] at *; omega))
            replace hlp1 := hlp1.step ho91 (by first | omega | (simp only [blk_some, hi1_some] at *; omega))
            replace hbx := hbx.out ho91 (by first | omega | (simp only [blk_some, hi1_some] at *; omega))
            simp only [List.nil_append] at hpts ⊢
            have hptr := hpts.rng
            refine st (y_fld fld44_1 rfl) ?_
            refine sd0 (d_st hbx sz22 rfl rfl rfl (Nat.le_of_ble_eq_true rfl) ?_)
            intro w96 hs98 ho97 hbx'
            clear hbx; have hbx := hbx'; clear hbx'
            have hz99 := ho97.size
            replace hL := hL.out ho97 (by first | omega | (simp only [blk_some, hi1_some] at *; omega))
            replace hE := hE.step ho97 (by first | omega | (simp only [blk_some, hi1_some] at *; omega))
            replace hlp0 := hlp0.step ho97 (by first | omega | (simp only [blk_some, hi1_some] at *; omega))
            replace hS := hS.out ho97 (by first | omega | (simp only [blk_some, hi1_some] at *; omega))
            replace hp := hp.out ho97 (by first | omega | (simp only [blk_some, hi1_some] at *; omega))
            replace hpt := hpt.out ho97 (by first | omega | (simp only [blk_some, hi1_some] at *; omega))
            replace ho_ := ho_.out ho97 (by first | omega | (simp only [blk_some, hi1_some] at *; omega))
            replace hrk := hrk.out ho97 (by first | omega | (simp only [blk_some, hi1_some] at *; omega))
            replace hlp1 := hlp1.step ho97 (by first | omega | (simp only [blk_some, hi1_some] at *; omega))
            have hrnhpts := hpts.rng
            replace hpts := hpts.out ho97 (by first | omega | (simp only [blk_some, hi1_some] at *; omega))
            obtain ⟨s, hs⟩ : ∃ s : Sg, s = ⟨sx, ap2, pc2, [5 + v5], a2, nt⟩ := ⟨_, rfl⟩
            replace hbx : Blk w96 bx (encSg s) := by rw [hs]; exact hbx
            have hSs : StS s := by rw [hs]; exact ⟨by dsimp only; omega, by dsimp only; omega, by simp, (by intro p hp; simp at hp; try omega), by dsimp only; omega, by dsimp only; omega, by dsimp only; omega, by dsimp only; omega⟩
            have hadj1 : 0 < sgs.length → (el sgs ((sgs.length : Int) - 1)).sec ≠ s.sec := by rw [hs]; exact hadj
            have hpk : Kp encI 1 bs w96.heap.size w96 ar ao s.pa s.pts := by rw [hs]; exact Kp.own (ad := ap2) (l := [5 + v5]) (hpts.wide (by omega)) (by omega) (by omega) (by omega)
            refine rg_end ?_
            refine n_then ?_
            refine rg ?_
            refine st (mvS rfl) ?_
            refine st (y_lbN hbx agg44 rfl) ?_
            refine sd (d_bs (bsl35_1 _ _ _ _ _ _ _) rfl ?_)
            intro b8 w100 hbb8 hs102 ho101 hb8
            have hz103 := ho101.size
            replace hL := hL.ext ho101
            replace hE := hE.step ho101 (.inl (Nat.le_refl _))
            replace hlp0 := hlp0.step ho101 (.inl (Nat.le_refl _))
            replace hS := hS.ext ho101
            replace hp := hp.ext ho101
            replace hpt := hpt.ext ho101
            replace ho_ := ho_.ext ho101
            replace hrk := hrk.ext ho101
            replace hlp1 := hlp1.step ho101 (.inl (Nat.le_refl _))
            replace hbx := hbx.ext ho101
            replace hpts := hpts.ext ho101
            replace hpk := hpk.ext ho101
            have hrhp := hp.rng
            refine sd (d_appA (xs := [s]) hp sl35 infoz44 (by decide) rfl rfl rfl rfl (hb8) (fun _ => rfl) (by simp; unfold maxLen; omega) (by simp; omega) (by omega) (by omega) ?_)
            intro ar1 cr1 w104 hatp hoP hp'
            have hs105 := hoP.size
            clear hp; have hp := hp'; clear hp'
            have hz108 := hoP.size
            replace hL := hL.out hoP (by first | omega | (simp only [blk_some, hi1_some] at *; omega))
            replace hE := hE.step hoP (by first | omega | (simp only [blk_some, hi1_some] at *; omega))
            replace hlp0 := hlp0.step hoP (by first | omega | (simp only [blk_some, hi1_some] at *; omega))
            replace hS := hS.out hoP (by first | omega | (simp only [blk_some, hi1_some] at *; omega))
            replace hpt := hpt.out hoP (by first | omega | (simp only [blk_some, hi1_some] at *; omega))
            replace ho_ := ho_.out hoP (by first | omega | (simp only [blk_some, hi1_some] at *; omega))
            replace hrk := hrk.out hoP (by first | omega | (simp only [blk_some, hi1_some] at *; omega))
            replace hlp1 := hlp1.step hoP (by first | omega | (simp only [blk_some, hi1_some] at *; omega))
            replace hbx := hbx.out hoP (by first | omega | (simp only [blk_some, hi1_some] at *; omega))
            replace hpts := hpts.out hoP (by first | omega | (simp only [blk_some, hi1_some] at *; omega))
            replace hpk := hpk.out hoP (by first | omega | (simp only [blk_some, hi1_some] at *; omega))
            have hpr1 := hp.rng
            have hpt1 := ((hpt.upA hatp (by omega) (show _ ≤ w104.heap.size by omega))).snoc ((hpk.setA hatp (by omega)).wide (by omega))
            have hrk1 := hrk.upA hatp (by omega) (show _ ≤ w104.heap.size by omega)
            have dsp1 : hi1 ar1 ≤ blk ao ∨ hi1 ao ≤ blk ar1 := by omega
            have hRw1 := hRw.snoc hSs hadj1
            refine st (asS rfl) ?_
            refine rg_end ?_
            refine n_blk ?_
            refine n_then ?_
            refine rg ?_
            refine st (mvI rfl) ?_
            refine st (y_sub rfl rfl (by omega)) ?_
            refine st (asI rfl) ?_
            refine rg_end ?_
            exact n_then ⟨(_, _, _, q - 1), _, rfl, same_lk rfl (same_h0), ⟨rfl, rfl, trivial⟩, ⟨hlp1, by first | omega | (dsimp only; omega), by simp; omega, by simp; omega, hRw1, hS, hp.wide (by omega), hpt1.wide (by omega), ho_.wide (by omega), hrk1.wide (by omega), dsp1⟩, by first | omega | (dsimp only; omega)⟩
          ·
            try simp only [decide_eq_true_eq, decide_eq_false_iff_not, Bool.not_eq_true', Bool.not_eq_false', Bool.and_eq_true, Bool.or_eq_true, Bool.or_eq_false_iff, Bool.cond_true_right, Bool.cond_false_right, Bool.cond_true_left, Bool.cond_false_left, ne_eq, Decidable.not_not, bne_iff_ne, beq_iff_eq, beq_eq_false_iff_ne, Bool.not_true, Bool.not_false] at hc3
            obtain ⟨s, hs⟩ : ∃ s : Sg, s = ⟨sx, none, 0, [], a2, nt⟩ := ⟨_, rfl⟩
            replace hbx : Blk w67 bx (encSg s) := by rw [hs]; exact hbx
            have hSs : StS s := by rw [hs]; exact ⟨by dsimp only; omega, by dsimp only; omega, by simp, (by intro p hp; simp at hp; try omega), by dsimp only; omega, by dsimp only; omega, by dsimp only; omega, by dsimp only; omega⟩
            have hadj1 : 0 < sgs.length → (el sgs ((sgs.length : Int) - 1)).sec ≠ s.sec := by rw [hs]; exact hadj
            have hpk : Kp encI 1 bs w67.heap.size w67 ar ao s.pa s.pts := by rw [hs]; exact Kp.nil
            refine wp_skip ?_
            refine n_then ?_
            refine rg ?_
            refine st (mvS rfl) ?_
            refine st (y_lbN hbx agg44 rfl) ?_
            refine sd (d_bs (bsl35_1 _ _ _ _ _ _ _) rfl ?_)
            intro b8 w109 hbb8 hs111 ho110 hb8
            have hz112 := ho110.size
            replace hL := hL.ext ho110
            replace hE := hE.step ho110 (.inl (Nat.le_refl _))
            replace hlp0 := hlp0.step ho110 (.inl (Nat.le_refl _))
            replace hS := hS.ext ho110
            replace hp := hp.ext ho110
            replace hpt := hpt.ext ho110
            replace ho_ := ho_.ext ho110
            replace hrk := hrk.ext ho110
            replace hlp1 := hlp1.step ho110 (.inl (Nat.le_refl _))
            replace hbx := hbx.ext ho110
            replace hpk := hpk.ext ho110
            have hrhp := hp.rng
            refine sd (d_appA (xs := [s]) hp sl35 infoz44 (by decide) rfl rfl rfl rfl (hb8) (fun _ => rfl) (by simp; unfold maxLen; omega) (by simp; omega) (by omega) (by omega) ?_)
            intro ar1 cr1 w113 hatp hoP hp'
            have hs114 := hoP.size
            clear hp; have hp := hp'; clear hp'
            have hz117 := hoP.size
            replace hL := hL.out hoP (by first | omega | (simp only [blk_some, hi1_some] at *; omega))
            replace hE := hE.step hoP (by first | omega | (simp only [blk_some, hi1_some] at *; omega))
            replace hlp0 := hlp0.step hoP (by first | omega | (simp only [blk_some, hi1_some] at *; omega))
            replace hS := hS.out hoP (by first | omega | (simp only [blk_some, hi1_some] at *; omega))
            replace hpt := hpt.out hoP (by first | omega | (simp only [blk_some, hi1_some] at *; omega))
            replace ho_ := ho_.out hoP (by first | omega | (simp only [blk_some, hi1_some] at *; omega))
            replace hrk := hrk.out hoP (by first | omega | (simp only [blk_some, hi1_some] at *; omega))
            replace hlp1 := hlp1.step hoP (by first | omega | (simp only [blk_some, hi1_some] at *; omega))
            replace hbx := hbx.out hoP (by first | omega | (simp only [blk_some, hi1_some] at *; omega))
            replace hpk := hpk.out hoP (by first | omega | (simp only [blk_some, hi1_some] at *; omega))
            have hpr1 := hp.rng
            have hpt1 := ((hpt.upA hatp (by omega) (show _ ≤ w113.heap.size by omega))).snoc ((hpk.setA hatp (by omega)).wide (by omega))
            have hrk1 := hrk.upA hatp (by omega) (show _ ≤ w113.heap.size by omega)
            have dsp1 : hi1 ar1 ≤ blk ao ∨ hi1 ao ≤ blk ar1 := by omega
            have hRw1 := hRw.snoc hSs hadj1
            refine st (asS rfl) ?_
            refine rg_end ?_
            refine n_blk ?_
            refine n_then ?_
            refine rg ?_
            refine st (mvI rfl) ?_
            refine st (y_sub rfl rfl (by omega)) ?_
            refine st (asI rfl) ?_
            refine rg_end ?_
            exact n_then ⟨(_, _, _, q - 1), _, rfl, same_lk rfl (same_h0), ⟨rfl, rfl, trivial⟩, ⟨hlp1, by first | omega | (dsimp only; omega), by simp; omega, by simp; omega, hRw1, hS, hp.wide (by omega), hpt1.wide (by omega), ho_.wide (by omega), hrk1.wide (by omega), dsp1⟩, by first | omega | (dsimp only; omega)⟩
        ·
          try simp only [decide_eq_true_eq, decide_eq_false_iff_not, Bool.not_eq_true', Bool.not_eq_false', Bool.and_eq_true, Bool.or_eq_true, Bool.or_eq_false_iff, Bool.cond_true_right, Bool.cond_false_right, Bool.cond_true_left, Bool.cond_false_left, ne_eq, Decidable.not_not, bne_iff_ne, beq_iff_eq, beq_eq_false_iff_ne, Bool.not_true, Bool.not_false] at hc2
          obtain ⟨sx, hsx⟩ : ∃ z, z = a1 := ⟨_, rfl⟩
          replace hbx : Blk w57 bx [.int .i64 sx, .slice none 0 0, .int .i64 a2, .int .i64 nt] := by rw [hsx]; exact hbx
          have hsr : 0 ≤ sx ∧ sx ≤ 4 := by omega
          have hadj : 0 < sgs.length → (el sgs ((sgs.length : Int) - 1)).sec ≠ sx := fun h => by
            rw [hsx]
            first
            | assumption
            | omega
          refine wp_skip ?_
          refine n_then ?_
          refine wp_seq ?_
          refine wp_seq ?_
          refine rg ?_
          refine st (mvP rfl) ?_
          refine sc cl34 (keep_Next_ok _ _ _ _ _ hS (by omega) (by omega) (by omega)) rfl ?_
          rintro v122 w118 ⟨p4, rfl, p4_0, p4_1, hS, ho119⟩
          have hz123 := ho119.size
          replace hL := hL.out ho119 (by first | omega | (simp only [blk_some, hi1_some] at *; omega))
          replace hE := hE.step ho119 (by first | omega | (simp only [blk_some, hi1_some] at *; omega))
          replace hlp0 := hlp0.step ho119 (by first | omega | (simp only [blk_some, hi1_some] at *; omega))
          replace hp := hp.out ho119 (by first | omega | (simp only [blk_some, hi1_some] at *; omega))
          replace hpt := hpt.out ho119 (by first | omega | (simp only [blk_some, hi1_some] at *; omega))
          replace ho_ := ho_.out ho119 (by first | omega | (simp only [blk_some, hi1_some] at *; omega))
          replace hrk := hrk.out ho119 (by first | omega | (simp only [blk_some, hi1_some] at *; omega))
          replace hlp1 := hlp1.step ho119 (by first | omega | (simp only [blk_some, hi1_some] at *; omega))
          replace hbx := hbx.out ho119 (by first | omega | (simp only [blk_some, hi1_some] at *; omega))
          refine st (y_eql rfl rfl) ?_
          refine rg_end ?_
          refine n_then ?_
          refine cnd rfl (fun hc3 => ?_) (fun hc3 => ?_)
          ·
            try simp only [decide_eq_true_eq, decide_eq_false_iff_not, Bool.not_eq_true', Bool.not_eq_false', Bool.and_eq_true, Bool.or_eq_true, Bool.or_eq_false_iff, Bool.cond_true_right, Bool.cond_false_right, Bool.cond_true_left, Bool.cond_false_left, ne_eq, Decidable.not_not, bne_iff_ne, beq_iff_eq, beq_eq_false_iff_ne, Bool.not_true, Bool.not_false] at hc3
            refine rgD 6 (fun w_ => Out bs (bs + 1) w118 w_) (fun i => Nat.beq i 3 || Nat.beq i 5) mixed (by kernel_rfl) ?_
            intro w124 ho125 hs126
            refine ⟨ho125.wide (.inl (Nat.le_refl _)), ?_⟩
            have hx127 := ho125.wide (a' := bs) (b' := (bs + 1)) (.inl (Nat.le_refl _))
            replace hS := hS.ext ho125
            refine tn rfl (fun _ hG => y_fld fld44_1 rfl) ?_
            refine tn rfl (fun _ hG => y_lb (hbx.out hG (by first | omega | (simp only [blk_some, hi1_some] at *; omega))) na22 rfl rfl) ?_
            refine tn rfl (fun _ hG => mvP rfl) ?_
            refine tc rfl cl34 (keep_Next_ok _ _ _ _ _ hS (by omega) (by omega) (by omega)) rfl ?_
            rintro v132 w128 ⟨v5, rfl, v5_0, v5_1, hS, ho129⟩
            have hx133 : Out bs (bs + 1) w118 w128 := hx127.step ho129 (by omega)
            have hz134 := ho129.size
            refine ⟨hx133, ?_⟩
            refine tn rfl (fun _ hG => y_add rfl rfl (by omega)) ?_
            refine td rfl (d_bs (bsl22_1 _ _) rfl ?_)
            intro b5 w135 hbb5 hs137 ho136 hb5
            have hx138 := hx133.step ho136 (.inl (Nat.le_refl _))
            have hz139 := ho136.size
            replace hS := hS.ext ho136
            refine ⟨hx138, ?_⟩
            refine t_end ?_
            have hz140 := hx138.size
            replace hL := hL.out hx138 (by first | omega | (simp only [blk_some, hi1_some] at *; omega))
            replace hE := hE.step hx138 (by first | omega | (simp only [blk_some, hi1_some] at *; omega))
            replace hlp0 := hlp0.step hx138 (by first | omega | (simp only [blk_some, hi1_some] at *; omega))
            replace hp := hp.out hx138 (by first | omega | (simp only [blk_some, hi1_some] at *; omega))
            replace hpt := hpt.out hx138 (by first | omega | (simp only [blk_some, hi1_some] at *; omega))
            replace ho_ := ho_.out hx138 (by first | omega | (simp only [blk_some, hi1_some] at *; omega))
            replace hrk := hrk.out hx138 (by first | omega | (simp only [blk_some, hi1_some] at *; omega))
            replace hlp1 := hlp1.step hx138 (by first | omega | (simp only [blk_some, hi1_some] at *; omega))
            replace hbx := hbx.out hx138 (by first | omega | (simp only [blk_some, hi1_some] at *; omega))
            obtain ⟨z6, hz6⟩ : ∃ z, z = w135.heap.size := ⟨_, rfl⟩
            have hpts := Ow.nil (E := 3) (sz := 1) (enc := encI) (lo := z6) (hi := 0) (w := w135) (fun _ => rfl)
            have hrhpts := hpts.rng
            refine sd (d_app (xs := [5 + v5]) hpts sl22 infoz3 (by decide) rfl rfl rfl rfl (hb5) (fun _ => rfl) (by simp; unfold maxLen; omega) (by simp <;> omega) (by omega) (Nat.zero_le _) ?_)
            intro ap2 pc2 w141 ho142 hpts'
            have hs143 := ho142.size
            clear hpts; have hpts := hpts'; clear hpts'
            have hz146 := ho142.size
            replace hL := hL.out ho142 (by first | omega | (simp only [blk_some, hi1_some] at *; omega))
            replace hE := hE.step ho142 (by first | omega | (simp only [blk_some, hi1_some] at *; omega))
            replace hlp0 := hlp0.step ho142 (by first | omega | (simp only [blk_some, hi1_some] at *; omega))
            replace hS := hS.out ho142 (by first | omega | (simp only [blk_some, hi1_some] at *; omega))
            replace hp := hp.out ho142 (by first | omega | (simp only [blk_some, hi1_some] at *; omega))
            replace hpt := hpt.out ho142 (by first | omega | (simp only [blk_some, hi1_some] at *; omega))
            replace ho_ := ho_.out ho142 (by first | omega | (simp only [blk_some, hi1_some] at *; omega))
            replace hrk := hrk.out ho142 (by first | omega | (simp only [blk_some, hi1_some] at *; omega))
            replace hlp1 := hlp1.step ho142 (by first | omega | (simp only [blk_some, hi1_some] at *; omega))
            replace hbx := hbx.out ho142 (by first | omega | (simp only [blk_some, hi1_some] at *; omega))
            simp only [List.nil_append] at hpts ⊢
            have hptr := hpts.rng
            refine st (y_fld fld44_1 rfl) ?_
            refine sd0 (d_st hbx sz22 rfl rfl rfl (Nat.le_of_ble_eq_true rfl) ?_)
            intro w147 hs149 ho148 hbx'
            clear hbx; have hbx := hbx'; clear hbx'
            have hz150 := ho148.size
            replace hL := hL.out ho148 (by first | omega | (simp only [blk_some, hi1_some] at *; omega))
            replace hE := hE.step ho148 (by first | omega | (simp only [blk_some, hi1_some] at *; omega))
            replace hlp0 := hlp0.step ho148 (by first | omega | (simp only [blk_some, hi1_some] at *; omega))
            replace hS := hS.out ho148 (by first | omega | (simp only [blk_some, hi1_some] at *; omega))
            replace hp := hp.out ho148 (by first | omega | (simp only [blk_some, hi1_some] at *; omega))
            replace hpt := hpt.out ho148 (by first | omega | (simp only [blk_some, hi1_some] at *; omega))
            replace ho_ := ho_.out ho148 (by first | omega | (simp only [blk_some, hi1_some] at *; omega))
            replace hrk := hrk.out ho148 (by first | omega | (simp only [blk_some, hi1_some] at *; omega))
            replace hlp1 := hlp1.step ho148 (by first | omega | (simp only [blk_some, hi1_some] at *; omega))
            have hrnhpts := hpts.rng
            replace hpts := hpts.out ho148 (by first | omega | (simp only [blk_some, hi1_some] at *; omega))
            obtain ⟨s, hs⟩ : ∃ s : Sg, s = ⟨sx, ap2, pc2, [5 + v5], a2, nt⟩ := ⟨_, rfl⟩
            replace hbx : Blk w147 bx (encSg s) := by rw [hs]; exact hbx
            have hSs : StS s := by rw [hs]; exact ⟨by dsimp only; omega, by dsimp only; omega, by simp, (by intro p hp; simp at hp; try omega), by dsimp only; omega, by dsimp only; omega, by dsimp only; omega, by dsimp only; omega⟩
            have hadj1 : 0 < sgs.length → (el sgs ((sgs.length : Int) - 1)).sec ≠ s.sec := by rw [hs]; exact hadj
            have hpk : Kp encI 1 bs w147.heap.size w147 ar ao s.pa s.pts := by rw [hs]; exact Kp.own (ad := ap2) (l := [5 + v5]) (hpts.wide (by omega)) (by omega) (by omega) (by omega)
            refine rg_end ?_
            refine n_then ?_
            refine rg ?_
            refine st (mvS rfl) ?_
            refine st (y_lbN hbx agg44 rfl) ?_
            refine sd (d_bs (bsl35_1 _ _ _ _ _ _ _) rfl ?_)
            intro b8 w151 hbb8 hs153 ho152 hb8
            have hz154 := ho152.size
            replace hL := hL.ext ho152
            replace hE := hE.step ho152 (.inl (Nat.le_refl _))
            replace hlp0 := hlp0.step ho152 (.inl (Nat.le_refl _))
            replace hS := hS.ext ho152
            replace hp := hp.ext ho152
            replace hpt := hpt.ext ho152
            replace ho_ := ho_.ext ho152
            replace hrk := hrk.ext ho152
            replace hlp1 := hlp1.step ho152 (.inl (Nat.le_refl _))
            replace hbx := hbx.ext ho152
            replace hpts := hpts.ext ho152
            replace hpk := hpk.ext ho152
            have hrhp := hp.rng
            refine sd (d_appA (xs := [s]) hp sl35 infoz44 (by decide) rfl rfl rfl rfl (hb8) (fun _ => rfl) (by simp; unfold maxLen; omega) (by simp; omega) (by omega) (by omega) ?_)
            intro ar1 cr1 w155 hatp hoP hp'
            have hs156 := hoP.size
            clear hp; have hp := hp'; clear hp'
            have hz159 := hoP.size
            replace hL := hL.out hoP (by first | omega | (simp only [blk_some, hi1_some] at *; omega))
            replace hE := hE.step hoP (by first | omega | (simp only [blk_some, hi1_some] at *; omega))
            replace hlp0 := hlp0.step hoP (by first | omega | (simp only [blk_some, hi1_some] at *; omega))
            replace hS := hS.out hoP (by first | omega | (simp only [blk_some, hi1_some] at *; omega))
            replace hpt := hpt.out hoP (by first | omega | (simp only [blk_some, hi1_some] at *; omega))
            replace ho_ := ho_.out hoP (by first | omega | (simp only [blk_some, hi1_some] at *; omega))
            replace hrk := hrk.out hoP (by first | omega | (simp only [blk_some, hi1_some] at *; omega))
            replace hlp1 := hlp1.step hoP (by first | omega | (simp only [blk_some, hi1_some] at *; omega))
            replace hbx := hbx.out hoP (by first | omega | (simp only [blk_some, hi1_some] at *; omega))
            replace hpts := hpts.out hoP (by first | omega | (simp only [blk_some, hi1_some] at *; omega))
            replace hpk := hpk.out hoP (by first | omega | (simp only [blk_some, hi1_some] at *; omega))
            have hpr1 := hp.rng
            have hpt1 := ((hpt.upA hatp (by omega) (show _ ≤ w155.heap.size by omega))).snoc ((hpk.setA hatp (by omega)).wide (by omega))
            have hrk1 := hrk.upA hatp (by omega) (show _ ≤ w155.heap.size by omega)
            have dsp1 : hi1 ar1 ≤ blk ao ∨ hi1 ao ≤ blk ar1 := by omega
            have hRw1 := hRw.snoc hSs hadj1
            refine st (asS rfl) ?_
            refine rg_end ?_
            refine n_blk ?_
            refine n_then ?_
            refine rg ?_
            refine st (mvI rfl) ?_
            refine st (y_sub rfl rfl (by omega)) ?_
            refine st (asI rfl) ?_
            refine rg_end ?_
            exact n_then ⟨(_, _, _, q - 1), _, rfl, same_lk rfl (same_h0), ⟨rfl, rfl, trivial⟩, ⟨hlp1, by first | omega | (dsimp only; omega), by simp; omega, by simp; omega, hRw1, hS, hp.wide (by omega), hpt1.wide (by omega), ho_.wide (by omega), hrk1.wide (by omega), dsp1⟩, by first | omega | (dsimp only; omega)⟩
          ·
            try simp only [decide_eq_true_eq, decide_eq_false_iff_not, Bool.not_eq_true', Bool.not_eq_false', Bool.and_eq_true, Bool.or_eq_true, Bool.or_eq_false_iff, Bool.cond_true_right, Bool.cond_false_right, Bool.cond_true_left, Bool.cond_false_left, ne_eq, Decidable.not_not, bne_iff_ne, beq_iff_eq, beq_eq_false_iff_ne, Bool.not_true, Bool.not_false] at hc3
            obtain ⟨s, hs⟩ : ∃ s : Sg, s = ⟨sx, none, 0, [], a2, nt⟩ := ⟨_, rfl⟩
            replace hbx : Blk w118 bx (encSg s) := by rw [hs]; exact hbx
            have hSs : StS s := by rw [hs]; exact ⟨by dsimp only; omega, by dsimp only; omega, by simp, (by intro p hp; simp at hp; try omega), by dsimp only; omega, by dsimp only; omega, by dsimp only; omega, by dsimp only; omega⟩
            have hadj1 : 0 < sgs.length → (el sgs ((sgs.length : Int) - 1)).sec ≠ s.sec := by rw [hs]; exact hadj
            have hpk : Kp encI 1 bs w118.heap.size w118 ar ao s.pa s.pts := by rw [hs]; exact Kp.nil
            refine wp_skip ?_
            refine n_then ?_
            refine rg ?_
            refine st (mvS rfl) ?_
            refine st (y_lbN hbx agg44 rfl) ?_
            refine sd (d_bs (bsl35_1 _ _ _ _ _ _ _) rfl ?_)
            intro b8 w160 hbb8 hs162 ho161 hb8
            have hz163 := ho161.size
            replace hL := hL.ext ho161
            replace hE := hE.step ho161 (.inl (Nat.le_refl _))
            replace hlp0 := hlp0.step ho161 (.inl (Nat.le_refl _))
            replace hS := hS.ext ho161
            replace hp := hp.ext ho161
            replace hpt := hpt.ext ho161
            replace ho_ := ho_.ext ho161
            replace hrk := hrk.ext ho161
            replace hlp1 := hlp1.step ho161 (.inl (Nat.le_refl _))
            replace hbx := hbx.ext ho161
            replace hpk := hpk.ext ho161
            have hrhp := hp.rng
            refine sd (d_appA (xs := [s]) hp sl35 infoz44 (by decide) rfl rfl rfl rfl (hb8) (fun _ => rfl) (by simp; unfold maxLen; omega) (by simp; omega) (by omega) (by omega) ?_)
            intro ar1 cr1 w164 hatp hoP hp'
            have hs165 := hoP.size
            clear hp; have hp := hp'; clear hp'
            have hz168 := hoP.size
            replace hL := hL.out hoP (by first | omega | (simp only [blk_some, hi1_some] at *; omega))
            replace hE := hE.step hoP (by first | omega | (simp only [blk_some, hi1_some] at *; omega))
            replace hlp0 := hlp0.step hoP (by first | omega | (simp only [blk_some, hi1_some] at *; omega))
            replace hS := hS.out hoP (by first | omega | (simp only [blk_some, hi1_some] at *; omega))
            replace hpt := hpt.out hoP (by first | omega | (simp only [blk_some, hi1_some] at *; omega))
            replace ho_ := ho_.out hoP (by first | omega | (simp only [blk_some, hi1_some] at *; omega))
            replace hrk := hrk.out hoP (by first | omega | (simp only [blk_some, hi1_some] at *; omega))
            replace hlp1 := hlp1.step hoP (by first | omega | (simp only [blk_some, hi1_some] at *; omega))
            replace hbx := hbx.out hoP (by first | omega | (simp only [blk_some, hi1_some] at *; omega))
            replace hpk := hpk.out hoP (by first | omega | (simp only [blk_some, hi1_some] at *; omega))
            have hpr1 := hp.rng
            have hpt1 := ((hpt.upA hatp (by omega) (show _ ≤ w164.heap.size by omega))).snoc ((hpk.setA hatp (by omega)).wide (by omega))
            have hrk1 := hrk.upA hatp (by omega) (show _ ≤ w164.heap.size by omega)
            have dsp1 : hi1 ar1 ≤ blk ao ∨ hi1 ao ≤ blk ar1 := by omega
            have hRw1 := hRw.snoc hSs hadj1
            refine st (asS rfl) ?_
            refine rg_end ?_
            refine n_blk ?_
            refine n_then ?_
            refine rg ?_
            refine st (mvI rfl) ?_
            refine st (y_sub rfl rfl (by omega)) ?_
            refine st (asI rfl) ?_
            refine rg_end ?_
            exact n_then ⟨(_, _, _, q - 1), _, rfl, same_lk rfl (same_h0), ⟨rfl, rfl, trivial⟩, ⟨hlp1, by first | omega | (dsimp only; omega), by simp; omega, by simp; omega, hRw1, hS, hp.wide (by omega), hpt1.wide (by omega), ho_.wide (by omega), hrk1.wide (by omega), dsp1⟩, by first | omega | (dsimp only; omega)⟩
      ·
        have hg61n := hg61; try simp only [decide_eq_true_eq, decide_eq_false_iff_not, Bool.not_eq_true', Bool.not_eq_false', Bool.and_eq_true, Bool.or_eq_true, Bool.or_eq_false_iff, Bool.cond_true_right, Bool.cond_false_right, Bool.cond_true_left, Bool.cond_false_left, ne_eq, Decidable.not_not, bne_iff_ne, beq_iff_eq, beq_eq_false_iff_ne, Bool.not_true, Bool.not_false] at hg61n
        refine tns rfl rfl hg61 ?_
        refine tns rfl rfl hg61 ?_
        refine tns rfl rfl hg61 ?_
        refine tns rfl rfl hg61 ?_
        refine tns rfl rfl hg61 ?_
        refine tns rfl rfl hg61 ?_
        refine tns rfl rfl hg61 ?_
        refine tns rfl rfl hg61 ?_
        refine tns rfl rfl hg61 ?_
        refine t_end ?_
        have hz169 := hx60.size
        replace hL := hL.ext hx60
        replace hE := hE.step hx60 (.inl (Nat.le_refl _))
        replace hlp0 := hlp0.step hx60 (.inl (Nat.le_refl _))
        replace hS := hS.ext hx60
        replace hp := hp.ext hx60
        replace hpt := hpt.ext hx60
        replace ho_ := ho_.ext hx60
        replace hrk := hrk.ext hx60
        replace hlp1 := hlp1.step hx60 (.inl (Nat.le_refl _))
        replace hbx := hbx.ext hx60
        refine sts rfl rfl hg61 ?_
        refine st (y_pickF rfl hg61 (v := .bool _) rfl) ?_
        refine rg_end ?_
        refine n_then ?_
        refine cnd rfl (fun hc2 => absurd hc2 (by decide)) (fun hc2 => ?_)
        obtain ⟨sx, hsx⟩ : ∃ z, z = a1 := ⟨_, rfl⟩
        replace hbx : Blk w57 bx [.int .i64 sx, .slice none 0 0, .int .i64 a2, .int .i64 nt] := by rw [hsx]; exact hbx
        have hsr : 0 ≤ sx ∧ sx ≤ 4 := by omega
        have hadj : 0 < sgs.length → (el sgs ((sgs.length : Int) - 1)).sec ≠ sx := fun h => by
          rw [hsx]
          first
          | assumption
          | omega
        refine wp_skip ?_
        refine n_then ?_
        refine wp_seq ?_
        refine wp_seq ?_
        refine rg ?_
        refine st (mvP rfl) ?_
        refine sc cl34 (keep_Next_ok _ _ _ _ _ hS (by omega) (by omega) (by omega)) rfl ?_
        rintro v174 w170 ⟨p4, rfl, p4_0, p4_1, hS, ho171⟩
        have hz175 := ho171.size
        replace hL := hL.out ho171 (by first | omega | (simp only [blk_some, hi1_some] at *; omega))
        replace hE := hE.step ho171 (by first | omega | (simp only [blk_some, hi1_some] at *; omega))
        replace hlp0 := hlp0.step ho171 (by first | omega | (simp only [blk_some, hi1_some] at *; omega))
        replace hp := hp.out ho171 (by first | omega | (simp only [blk_some, hi1_some] at *; omega))
        replace hpt := hpt.out ho171 (by first | omega | (simp only [blk_some, hi1_some] at *; omega))
        replace ho_ := ho_.out ho171 (by first | omega | (simp only [blk_some, hi1_some] at *; omega))
        replace hrk := hrk.out ho171 (by first | omega | (simp only [blk_some, hi1_some] at *; omega))
        replace hlp1 := hlp1.step ho171 (by first | omega | (simp only [blk_some, hi1_some] at *; omega))
        replace hbx := hbx.out ho171 (by first | omega | (simp only [blk_some, hi1_some] at *; omega))
        refine st (y_eql rfl rfl) ?_
        refine rg_end ?_
        refine n_then ?_
        refine cnd rfl (fun hc3 => ?_) (fun hc3 => ?_)
        ·
          try simp only [decide_eq_true_eq, decide_eq_false_iff_not, Bool.not_eq_true', Bool.not_eq_false', Bool.and_eq_true, Bool.or_eq_true, Bool.or_eq_false_iff, Bool.cond_true_right, Bool.cond_false_right, Bool.cond_true_left, Bool.cond_false_left, ne_eq, Decidable.not_not, bne_iff_ne, beq_iff_eq, beq_eq_false_iff_ne, Bool.not_true, Bool.not_false] at hc3
          refine rgD 6 (fun w_ => Out bs (bs + 1) w170 w_) (fun i => Nat.beq i 3 || Nat.beq i 5) mixed (by kernel_rfl) ?_
          intro w176 ho177 hs178
          refine ⟨ho177.wide (.inl (Nat.le_refl _)), ?_⟩
          have hx179 := ho177.wide (a' := bs) (b' := (bs + 1)) (.inl (Nat.le_refl _))
          replace hS := hS.ext ho177
          refine tn rfl (fun _ hG => y_fld fld44_1 rfl) ?_
          refine tn rfl (fun _ hG => y_lb (hbx.out hG (by first | omega | (simp only [blk_some, hi1_some] at *; omega))) na22 rfl rfl) ?_
          refine tn rfl (fun _ hG => mvP rfl) ?_
          refine tc rfl cl34 (keep_Next_ok _ _ _ _ _ hS (by omega) (by omega) (by omega)) rfl ?_
          rintro v184 w180 ⟨v5, rfl, v5_0, v5_1, hS, ho181⟩
          have hx185 : Out bs (bs + 1) w170 w180 := hx179.step ho181 (by omega)
          have hz186 := ho181.size
          refine ⟨hx185, ?_⟩
          refine tn rfl (fun _ hG => y_add rfl rfl (by omega)) ?_
          refine td rfl (d_bs (bsl22_1 _ _) rfl ?_)
          intro b5 w187 hbb5 hs189 ho188 hb5
          have hx190 := hx185.step ho188 (.inl (Nat.le_refl _))
          have hz191 := ho188.size
          replace hS := hS.ext ho188
          refine ⟨hx190, ?_⟩
          refine t_end ?_
          have hz192 := hx190.size
          replace hL := hL.out hx190 (by first | omega | (simp only [blk_some, hi1_some] at *; omega))
          replace hE := hE.step hx190 (by first | omega | (simp only [blk_some, hi1_some] at *; omega))
          replace hlp0 := hlp0.step hx190 (by first | omega | (simp only [blk_some, hi1_some] at *; omega))
          replace hp := hp.out hx190 (by first | omega | (simp only [blk_some, hi1_some] at *; omega))
          replace hpt := hpt.out hx190 (by first | omega | (simp only [blk_some, hi1_some] at *; omega))
          replace ho_ := ho_.out hx190 (by first | omega | (simp only [blk_some, hi1_some] at *; omega))
          replace hrk := hrk.out hx190 (by first | omega | (simp only [blk_some, hi1_some] at *; omega))
          replace hlp1 := hlp1.step hx190 (by first | omega | (simp only [blk_some, hi1_some] at *; omega))
          replace hbx := hbx.out hx190 (by first | omega | (simp only [blk_some, hi1_some] at *; omega))
          obtain ⟨z6, hz6⟩ : ∃ z, z = w187.heap.size := ⟨_, rfl⟩
          have hpts := Ow.nil (E := 3) (sz := 1) (enc := encI) (lo := z6) (hi := 0) (w := w187) (fun _ => rfl)
          have hrhpts := hpts.rng
          refine sd (d_app (xs := [5 + v5]) hpts sl22 infoz3 (by decide) rfl rfl rfl rfl (hb5) (fun _ => rfl) (by simp; unfold maxLen; omega) (by simp <;> omega) (by omega) (Nat.zero_le _) ?_)
          intro ap2 pc2 w193 ho194 hpts'
          have hs195 := ho194.size
          clear hpts; have hpts := hpts'; clear hpts'
          have hz198 := ho194.size
          replace hL := hL.out ho194 (by first | omega | (simp only [blk_some, hi1_some] at *; omega))
          replace hE := hE.step ho194 (by first | omega | (simp only [blk_some, hi1_some] at *; omega))
          replace hlp0 := hlp0.step ho194 (by first | omega | (simp only [blk_some, hi1_some] at *; omega))
          replace hS := hS.out ho194 (by first | omega | (simp only [blk_some, hi1_some] at *; omega))
          replace hp := hp.out ho194 (by first | omega | (simp only [blk_some, hi1_some] at *; omega))
          replace hpt := hpt.out ho194 (by first | omega | (simp only [blk_some, hi1_some] at *; omega))
          replace ho_ := ho_.out ho194 (by first | omega | (simp only [blk_some, hi1_some] at *; omega))
          replace hrk := hrk.out ho194 (by first | omega | (simp only [blk_some, hi1_some] at *; omega))
          replace hlp1 := hlp1.step ho194 (by first | omega | (simp only [blk_some, hi1_some] at *; omega))
          replace hbx := hbx.out ho194 (by first | omega | (simp only [blk_some, hi1_some] at *; omega))
          simp only [List.nil_append] at hpts ⊢
          have hptr := hpts.rng
          refine st (y_fld fld44_1 rfl) ?_
          refine sd0 (d_st hbx sz22 rfl rfl rfl (Nat.le_of_ble_eq_true rfl) ?_)
          intro w199 hs201 ho200 hbx'
          clear hbx; have hbx := hbx'; clear hbx'
          have hz202 := ho200.size
          replace hL := hL.out ho200 (by first | omega | (simp only [blk_some, hi1_some] at *; omega))
          replace hE := hE.step ho200 (by first | omega | (simp only [blk_some, hi1_some] at *; omega))
          replace hlp0 := hlp0.step ho200 (by first | omega | (simp only [blk_some, hi1_some] at *; omega))
          replace hS := hS.out ho200 (by first | omega | (simp only [blk_some, hi1_some] at *; omega))
          replace hp := hp.out ho200 (by first | omega | (simp only [blk_some, hi1_some] at *; omega))
          replace hpt := hpt.out ho200 (by first | omega | (simp only [blk_some, hi1_some] at *; omega))
          replace ho_ := ho_.out ho200 (by first | omega | (simp only [blk_some, hi1_some] at *; omega))
          replace hrk := hrk.out ho200 (by first | omega | (simp only [blk_some, hi1_some] at *; omega))
          replace hlp1 := hlp1.step ho200 (by first | omega | (simp only [blk_some, hi1_some] at *; omega))
          have hrnhpts := hpts.rng
          replace hpts := hpts.out ho200 (by first | omega | (simp only [blk_some, hi1_some] at *; omega))
          obtain ⟨s, hs⟩ : ∃ s : Sg, s = ⟨sx, ap2, pc2, [5 + v5], a2, nt⟩ := ⟨_, rfl⟩
          replace hbx : Blk w199 bx (encSg s) := by rw [hs]; exact hbx
          have hSs : StS s := by rw [hs]; exact ⟨by dsimp only; omega, by dsimp only; omega, by simp, (by intro p hp; simp at hp; try omega), by dsimp only; omega, by dsimp only; omega, by dsimp only; omega, by dsimp only; omega⟩
          have hadj1 : 0 < sgs.length → (el sgs ((sgs.length : Int) - 1)).sec ≠ s.sec := by rw [hs]; exact hadj
          have hpk : Kp encI 1 bs w199.heap.size w199 ar ao s.pa s.pts := by rw [hs]; exact Kp.own (ad := ap2) (l := [5 + v5]) (hpts.wide (by omega)) (by omega) (by omega) (by omega)
          refine rg_end ?_
          refine n_then ?_
          refine rg ?_
          refine st (mvS rfl) ?_
          refine st (y_lbN hbx agg44 rfl) ?_
          refine sd (d_bs (bsl35_1 _ _ _ _ _ _ _) rfl ?_)
          intro b8 w203 hbb8 hs205 ho204 hb8
          have hz206 := ho204.size
          replace hL := hL.ext ho204
          replace hE := hE.step ho204 (.inl (Nat.le_refl _))
          replace hlp0 := hlp0.step ho204 (.inl (Nat.le_refl _))
          replace hS := hS.ext ho204
          replace hp := hp.ext ho204
          replace hpt := hpt.ext ho204
          replace ho_ := ho_.ext ho204
          replace hrk := hrk.ext ho204
          replace hlp1 := hlp1.step ho204 (.inl (Nat.le_refl _))
          replace hbx := hbx.ext ho204
          replace hpts := hpts.ext ho204
          replace hpk := hpk.ext ho204
          have hrhp := hp.rng
          refine sd (d_appA (xs := [s]) hp sl35 infoz44 (by decide) rfl rfl rfl rfl (hb8) (fun _ => rfl) (by simp; unfold maxLen; omega) (by simp; omega) (by omega) (by omega) ?_)
          intro ar1 cr1 w207 hatp hoP hp'
          have hs208 := hoP.size
          clear hp; have hp := hp'; clear hp'
          have hz211 := hoP.size
          replace hL := hL.out hoP (by first | omega | (simp only [blk_some, hi1_some] at *; omega))
          replace hE := hE.step hoP (by first | omega | (simp only [blk_some, hi1_some] at *; omega))
          replace hlp0 := hlp0.step hoP (by first | omega | (simp only [blk_some, hi1_some] at *; omega))
          replace hS := hS.out hoP (by first | omega | (simp only [blk_some, hi1_some] at *; omega))
          replace hpt := hpt.out hoP (by first | omega | (simp only [blk_some, hi1_some] at *; omega))
          replace ho_ := ho_.out hoP (by first | omega | (simp only [blk_some, hi1_some] at *; omega))
          replace hrk := hrk.out hoP (by first | omega | (simp only [blk_some, hi1_some] at *; omega))
          replace hlp1 := hlp1.step hoP (by first | omega | (simp only [blk_some, hi1_some] at *; omega))
          replace hbx := hbx.out hoP (by first | omega | (simp only [blk_some, hi1_some] at *; omega))
          replace hpts := hpts.out hoP (by first | omega | (simp only [blk_some, hi1_some] at *; omega))
          replace hpk := hpk.out hoP (by first | omega | (simp only [blk_some, hi1_some] at *; omega))
          have hpr1 := hp.rng
          have hpt1 := ((hpt.upA hatp (by omega) (show _ ≤ w207.heap.size by omega))).snoc ((hpk.setA hatp (by omega)).wide (by omega))
          have hrk1 := hrk.upA hatp (by omega) (show _ ≤ w207.heap.size by omega)
          have dsp1 : hi1 ar1 ≤ blk ao ∨ hi1 ao ≤ blk ar1 := by omega
          have hRw1 := hRw.snoc hSs hadj1
          refine st (asS rfl) ?_
          refine rg_end ?_
          refine n_blk ?_
          refine n_then ?_
          refine rg ?_
          refine st (mvI rfl) ?_
          refine st (y_sub rfl rfl (by omega)) ?_
          refine st (asI rfl) ?_
          refine rg_end ?_
          exact n_then ⟨(_, _, _, q - 1), _, rfl, same_lk rfl (same_h0), ⟨rfl, rfl, trivial⟩, ⟨hlp1, by first | omega | (dsimp only; omega), by simp; omega, by simp; omega, hRw1, hS, hp.wide (by omega), hpt1.wide (by omega), ho_.wide (by omega), hrk1.wide (by omega), dsp1⟩, by first | omega | (dsimp only; omega)⟩
        ·
          try simp only [decide_eq_true_eq, decide_eq_false_iff_not, Bool.not_eq_true', Bool.not_eq_false', Bool.and_eq_true, Bool.or_eq_true, Bool.or_eq_false_iff, Bool.cond_true_right, Bool.cond_false_right, Bool.cond_true_left, Bool.cond_false_left, ne_eq, Decidable.not_not, bne_iff_ne, beq_iff_eq, beq_eq_false_iff_ne, Bool.not_true, Bool.not_false] at hc3
          obtain ⟨s, hs⟩ : ∃ s : Sg, s = ⟨sx, none, 0, [], a2, nt⟩ := ⟨_, rfl⟩
          replace hbx : Blk w170 bx (encSg s) := by rw [hs]; exact hbx
          have hSs : StS s := by rw [hs]; exact ⟨by dsimp only; omega, by dsimp only; omega, by simp, (by intro p hp; simp at hp; try omega), by dsimp only; omega, by dsimp only; omega, by dsimp only; omega, by dsimp only; omega⟩
          have hadj1 : 0 < sgs.length → (el sgs ((sgs.length : Int) - 1)).sec ≠ s.sec := by rw [hs]; exact hadj
          have hpk : Kp encI 1 bs w170.heap.size w170 ar ao s.pa s.pts := by rw [hs]; exact Kp.nil
          refine wp_skip ?_
          refine n_then ?_
          refine rg ?_
          refine st (mvS rfl) ?_
          refine st (y_lbN hbx agg44 rfl) ?_
          refine sd (d_bs (bsl35_1 _ _ _ _ _ _ _) rfl ?_)
          intro b8 w212 hbb8 hs214 ho213 hb8
          have hz215 := ho213.size
          replace hL := hL.ext ho213
          replace hE := hE.step ho213 (.inl (Nat.le_refl _))
          replace hlp0 := hlp0.step ho213 (.inl (Nat.le_refl _))
          replace hS := hS.ext ho213
          replace hp := hp.ext ho213
          replace hpt := hpt.ext ho213
          replace ho_ := ho_.ext ho213
          replace hrk := hrk.ext ho213
          replace hlp1 := hlp1.step ho213 (.inl (Nat.le_refl _))
          replace hbx := hbx.ext ho213
          replace hpk := hpk.ext ho213
          have hrhp := hp.rng
          refine sd (d_appA (xs := [s]) hp sl35 infoz44 (by decide) rfl rfl rfl rfl (hb8) (fun _ => rfl) (by simp; unfold maxLen; omega) (by simp; omega) (by omega) (by omega) ?_)
          intro ar1 cr1 w216 hatp hoP hp'
          have hs217 := hoP.size
          clear hp; have hp := hp'; clear hp'
          have hz220 := hoP.size
          replace hL := hL.out hoP (by first | omega | (simp only [blk_some, hi1_some] at *; omega))
          replace hE := hE.step hoP (by first | omega | (simp only [blk_some, hi1_some] at *; omega))
          replace hlp0 := hlp0.step hoP (by first | omega | (simp only [blk_some, hi1_some] at *; omega))
          replace hS := hS.out hoP (by first | omega | (simp only [blk_some, hi1_some] at *; omega))
          replace hpt := hpt.out hoP (by first | omega | (simp only [blk_some, hi1_some] at *; omega))
          replace ho_ := ho_.out hoP (by first | omega | (simp only [blk_some, hi1_some] at *; omega))
          replace hrk := hrk.out hoP (by first | omega | (simp only [blk_some, hi1_some] at *; omega))
          replace hlp1 := hlp1.step hoP (by first | omega | (simp only [blk_some, hi1_some] at *; omega))
          replace hbx := hbx.out hoP (by first | omega | (simp only [blk_some, hi1_some] at *; omega))
          replace hpk := hpk.out hoP (by first | omega | (simp only [blk_some, hi1_some] at *; omega))
          have hpr1 := hp.rng
          have hpt1 := ((hpt.upA hatp (by omega) (show _ ≤ w216.heap.size by omega))).snoc ((hpk.setA hatp (by omega)).wide (by omega))
          have hrk1 := hrk.upA hatp (by omega) (show _ ≤ w216.heap.size by omega)
          have dsp1 : hi1 ar1 ≤ blk ao ∨ hi1 ao ≤ blk ar1 := by omega
          have hRw1 := hRw.snoc hSs hadj1
          refine st (asS rfl) ?_
          refine rg_end ?_
          refine n_blk ?_
          refine n_then ?_
          refine rg ?_
          refine st (mvI rfl) ?_
          refine st (y_sub rfl rfl (by omega)) ?_
          refine st (asI rfl) ?_
          refine rg_end ?_
          exact n_then ⟨(_, _, _, q - 1), _, rfl, same_lk rfl (same_h0), ⟨rfl, rfl, trivial⟩, ⟨hlp1, by first | omega | (dsimp only; omega), by simp; omega, by simp; omega, hRw1, hS, hp.wide (by omega), hpt1.wide (by omega), ho_.wide (by omega), hrk1.wide (by omega), dsp1⟩, by first | omega | (dsimp only; omega)⟩
    ·
      try simp only [decide_eq_true_eq, decide_eq_false_iff_not, Bool.not_eq_true', Bool.not_eq_false', Bool.and_eq_true, Bool.or_eq_true, Bool.or_eq_false_iff, Bool.cond_true_right, Bool.cond_false_right, Bool.cond_true_left, Bool.cond_false_left, ne_eq, Decidable.not_not, bne_iff_ne, beq_iff_eq, beq_eq_false_iff_ne, Bool.not_true, Bool.not_false] at hc1
      have hq0 : q = 0 := by omega
      refine wp_exit ?_
      refine e_then (e_then (e_blk (?_)))
      refine n_then ?_
      refine rg ?_
      refine st (mvS rfl) ?_
      refine st (mvS rfl) ?_
      refine sd (d_bs (bsl23_1 _ _ _ _) rfl ?_)
      intro b9 w221 hbb9 hs223 ho222 hb9
      have hz224 := ho222.size
      replace hL := hL.ext ho222
      replace hE := hE.step ho222 (.inl (Nat.le_refl _))
      replace hlp0 := hlp0.step ho222 (.inl (Nat.le_refl _))
      replace hS := hS.ext ho222
      replace hp := hp.ext ho222
      replace hpt := hpt.ext ho222
      replace ho_ := ho_.ext ho222
      replace hrk := hrk.ext ho222
      have hrho_ := ho_.rng
      refine sd (d_appA (xs := [(⟨ar, cr, sgs⟩ : Pw)]) ho_ sl23 infoz35 (by decide) rfl rfl rfl rfl (hb9) (fun _ => rfl) (by simp; unfold maxLen; omega) (by simp; omega) (by omega) (by omega) ?_)
      intro ao1 co1 w225 hato hoO ho_'
      have hs226 := hoO.size
      clear ho_; have ho_ := ho_'; clear ho_'
      have hz229 := hoO.size
      replace hL := hL.out hoO (by first | omega | (simp only [blk_some, hi1_some] at *; omega))
      replace hE := hE.step hoO (by first | omega | (simp only [blk_some, hi1_some] at *; omega))
      replace hlp0 := hlp0.step hoO (by first | omega | (simp only [blk_some, hi1_some] at *; omega))
      replace hS := hS.out hoO (by first | omega | (simp only [blk_some, hi1_some] at *; omega))
      have hrnhp := hp.rng
      replace hp := hp.out hoO (by first | omega | (simp only [blk_some, hi1_some] at *; omega))
      replace hpt := hpt.out hoO (by first | omega | (simp only [blk_some, hi1_some] at *; omega))
      replace hrk := hrk.out hoO (by first | omega | (simp only [blk_some, hi1_some] at *; omega))
      have hor1 := ho_.rng
      have hrk1 := (hrk.upP hato (by omega) (show _ ≤ w225.heap.size by omega)).snoc (r := ⟨ar, cr, sgs⟩) (Kp.own (ad := ar) (l := sgs) (hp.wide (by omega)) (by omega) (.inr (.inl (Nat.zero_le _))) (by omega)) (hpt.upP hato (by omega) (by omega))
      have hsm1 : ∀ r ∈ rows ++ [(⟨ar, cr, sgs⟩ : Pw)], 1 ≤ r.st.length ∧ r.st.length ≤ 4 ∧ RwS r.st := fun r hr => by
        rcases List.mem_append.1 hr with q | q
        · exact hsm r q
        · rw [List.mem_singleton.1 q]; exact ⟨by dsimp only; omega, by dsimp only; omega, hRw⟩
      refine st (asS rfl) ?_
      refine rg_end ?_
      refine n_blk ?_
      refine n_then ?_
      refine rg ?_
      refine st (mvI rfl) ?_
      refine st (y_sub rfl rfl (by omega)) ?_
      refine st (asI rfl) ?_
      refine rg_end ?_
      exact n_then ⟨(_, _, _, k - 1), _, rfl, same_lk rfl (same_hav rfl (same_lk rfl (same_h0))), ⟨rfl, rfl, trivial⟩, ⟨hlp0, by first | omega | (dsimp only; omega), by simp; omega, by simp; omega, hsm1, hS, ho_.wide (by omega), hrk1.wide (by omega)⟩, by first | omega | (dsimp only; omega)⟩
  ·
    try simp only [decide_eq_true_eq, decide_eq_false_iff_not, Bool.not_eq_true', Bool.not_eq_false', Bool.and_eq_true, Bool.or_eq_true, Bool.or_eq_false_iff, Bool.cond_true_right, Bool.cond_false_right, Bool.cond_true_left, Bool.cond_false_left, ne_eq, Decidable.not_not, bne_iff_ne, beq_iff_eq, beq_eq_false_iff_ne, Bool.not_true, Bool.not_false] at hc0
    have hk0 : k = 0 := by omega
    have hcap := ho_.lenLe
    refine wp_exit ?_
    refine e_then (e_then (e_blk (?_)))
    refine n_then ?_
    refine wp_seq ?_
    refine rg ?_
    refine st (mvS rfl) ?_
    refine st (asS rfl) ?_
    refine rg_end ?_
    refine n_then ?_
    refine wp_ret ?_
    refine ret1 (v := (.slice _ _ _)) Try.results13 rfl ?_
    exact ⟨rows, ao, co, rfl, ⟨by omega, by omega, hsm⟩, hcap, ⟨ho_.sl.wide (Nat.zero_le _) (by omega), fun r hr => (hrk.rw r hr).1.sl.wide (Nat.zero_le _) (by omega), fun r hr s hs => ((hrk.rw r hr).2.pt s hs).sl.wide (Nat.zero_le _) (by omega)⟩, hE⟩
end Go.Proofs.Yteicgnmggkhlbaa
