/-
  Walks of the functions, printed by a program out of the code and the loops' relations.
-/
import Derived.Test.YteicgnmggkhlbaaWkD
import Derived.Test.YteicgnmggkhlbaaProg
import Derived.KernelRfl
import Derived.Test.YteicgnmggkhlbaaP9
namespace Go.Proofs.Yteicgnmggkhlbaa
open Go.Wk Go.RowKit
set_option linter.unusedVariables false
set_option linter.unusedSimpArgs false
theorem fld68_3 : FieldOf Try.prog 68 3 3 := fun b o w => by simp [Instr.fieldAt, fieldPlace, Instr.sureAddr, Addr.add_lit]
theorem na66 : NotAgg Try.prog 66 := Try.isAgg66
theorem sl66 : SliceOf Try.prog 66 22 1 := ⟨Try.underlying66, Try.sizeOf22⟩

structure Rw where
  a : Option Addr
  c : Nat
  l : List Int
  deriving Inhabited
def encRw (r : Rw) : List Value := [.slice r.a r.l.length r.c]
/-- A row that is kept: it lies apart from the block 'bs' and from the blocks of two slices. -/
structure RowS (bs tp : Nat) (w : World) (sa pa : Option Addr) (r : Rw) : Prop where
  ex : ∃ la ha, Sl encI 1 la ha w r.a r.l ∧ ha ≤ tp ∧ (ha = 0 ∨ (ha = la + 1 ∧ la ≠ bs ∧ (hi1 sa ≤ la ∨ la < blk sa) ∧ (hi1 pa ≤ la ∨ la < blk pa)))
structure RfI (bs tp : Nat) (w : World) (sa pa : Option Addr) (L : List Rw) : Prop where
  row : ∀ r ∈ L, RowS bs tp w sa pa r
theorem hi1_le (ad : Option Addr) : hi1 ad ≤ blk ad + 1 := by cases ad <;> simp [hi1, blk]
theorem RowS.out {bs tp : Nat} {w w' : World} {sa pa : Option Addr} {r : Rw} {a b : Nat} (h : RowS bs tp w sa pa r) (ho : Out a b w w') (hs : tp ≤ a ∨ b ≤ a ∨ (a = bs ∧ b = bs + 1) ∨ (a = blk sa ∧ b ≤ hi1 sa) ∨ (a = blk pa ∧ b ≤ hi1 pa)) : RowS bs tp w' sa pa r := by
  obtain ⟨la, ha, h1, h2, h3⟩ := h.ex
  have e1 := hi1_le sa
  have e2 := hi1_le pa
  exact ⟨la, ha, h1.out ho (by omega), h2, h3⟩
theorem RfI.out {bs tp : Nat} {w w' : World} {sa pa : Option Addr} {L : List Rw} {a b : Nat} (h : RfI bs tp w sa pa L) (ho : Out a b w w') (hs : tp ≤ a ∨ b ≤ a ∨ (a = bs ∧ b = bs + 1) ∨ (a = blk sa ∧ b ≤ hi1 sa) ∨ (a = blk pa ∧ b ≤ hi1 pa)) : RfI bs tp w' sa pa L := ⟨fun r hr => (h.row r hr).out ho hs⟩
theorem RfI.ext {bs tp : Nat} {w w' : World} {sa pa : Option Addr} {L : List Rw} (h : RfI bs tp w sa pa L) (ho : Ext w w') : RfI bs tp w' sa pa L := h.out ho (.inr (.inl (Nat.le_refl _)))
theorem RfI.wide {bs tp tp' : Nat} {w : World} {sa pa : Option Addr} {L : List Rw} (h : RfI bs tp w sa pa L) (ht : tp ≤ tp') : RfI bs tp' w sa pa L := ⟨fun r hr => by
  obtain ⟨la, ha, h1, h2, h3⟩ := (h.row r hr).ex
  exact ⟨la, ha, h1, by omega, h3⟩⟩
theorem RfI.setA {bs tp z : Nat} {w : World} {sa pa sa1 : Option Addr} {L : List Rw} (h : RfI bs tp w sa pa L) (hat : (blk sa1 = blk sa ∧ hi1 sa1 = hi1 sa) ∨ (blk sa1 = z ∧ hi1 sa1 = z + 1)) (hz : tp ≤ z) : RfI bs tp w sa1 pa L := ⟨fun r hr => by
  obtain ⟨la, ha, h1, h2, h3⟩ := (h.row r hr).ex
  exact ⟨la, ha, h1, h2, by omega⟩⟩
theorem RfI.setP {bs tp z : Nat} {w : World} {sa pa pa1 : Option Addr} {L : List Rw} (h : RfI bs tp w sa pa L) (hat : (blk pa1 = blk pa ∧ hi1 pa1 = hi1 pa) ∨ (blk pa1 = z ∧ hi1 pa1 = z + 1)) (hz : tp ≤ z) : RfI bs tp w sa pa1 L := ⟨fun r hr => by
  obtain ⟨la, ha, h1, h2, h3⟩ := (h.row r hr).ex
  exact ⟨la, ha, h1, h2, by omega⟩⟩
theorem RowS.own {bs tp z : Nat} {w : World} {sa pa : Option Addr} {r : Rw} (h : Ow 3 encI 1 z tp w r.a r.c r.l) (hb : hi1 r.a = 0 ∨ blk r.a ≠ bs) (hs : hi1 r.a = 0 ∨ hi1 sa ≤ blk r.a ∨ blk r.a < blk sa) (hp : hi1 r.a = 0 ∨ hi1 pa ≤ blk r.a ∨ blk r.a < blk pa) : RowS bs tp w sa pa r := by
  have hr := h.rng
  rcases h.form with ⟨h1, h2, h3⟩ | ⟨g, h1, h2, h3, h4⟩
  · have : r.l = [] := List.eq_nil_of_length_eq_zero h2
    refine ⟨0, 0, ⟨fun q => absurd this q, fun i x hx => by rw [this] at hx; simp at hx⟩, by omega, .inl rfl⟩
  · have e : blk r.a = g := by rw [h1]; rfl
    have e2 : hi1 r.a = g + 1 := by rw [h1]; rfl
    refine ⟨g, g + 1, ⟨fun q => ⟨((h.sl).plain q).1, by omega, by omega⟩, h.sl.cell⟩, by omega, .inr ⟨rfl, by omega, by omega, by omega⟩⟩
theorem RfI.add {bs tp : Nat} {w : World} {sa pa : Option Addr} {r : Rw} {L : List Rw} (h : RfI bs tp w sa pa L) (hr : RowS bs tp w sa pa r) : RfI bs tp w sa pa (r :: L) := ⟨fun x hx => by
  rcases List.mem_cons.1 hx with rfl | q
  · exact hr
  · exact h.row x q⟩
theorem RfI.sub {bs tp : Nat} {w : World} {sa pa : Option Addr} {L L' : List Rw} (h : RfI bs tp w sa pa L) (hs : ∀ x ∈ L', x ∈ L) : RfI bs tp w sa pa L' := ⟨fun x hx => h.row x (hs x hx)⟩
/-- The reference's search in memory; the rows of 'K' are kept. -/
structure RMe (bs : Nat) (w : World) (rows : List Pw) (ap : Option Addr) (cp : Nat) (B U : Int) (S : List (List Int)) (K : List Rw) (pl : List Int) : Prop where
  ex : ∃ sa sc pa pc sn, Blk w bs [.slice ap rows.length cp, .int .i64 B, .int .i64 U, .slice sa sn.length sc, .slice pa pl.length pc] ∧ Ow 22 encRw 1 (bs + 1) w.heap.size w sa sc sn ∧ Ow 3 encI 1 (bs + 1) w.heap.size w pa pc pl ∧ sn.map (·.l) = S ∧ RfI bs w.heap.size w sa pa (sn ++ K) ∧ (hi1 sa ≤ blk pa ∨ hi1 pa ≤ blk sa) ∧ (S.length : Int) ≤ B ∧ (∀ x ∈ S, x.length = rows.length) ∧ bs < w.heap.size
theorem RMe.less {bs : Nat} {w : World} {rows : List Pw} {ap : Option Addr} {cp : Nat} {B U : Int} {S : List (List Int)} {r : Rw} {K : List Rw} {pl : List Int} (h : RMe bs w rows ap cp B U S (r :: K) pl) : RMe bs w rows ap cp B U S K pl := by
  obtain ⟨sa, sc, pa, pc, sn, h1, h2, h3, h4, h5, h6⟩ := h.ex
  refine ⟨sa, sc, pa, pc, sn, h1, h2, h3, h4, h5.sub (fun x hx => ?_), h6⟩
  rcases List.mem_append.1 hx with q | q
  · exact List.mem_append_left _ q
  · exact List.mem_append_right _ (List.mem_cons_of_mem _ q)
theorem eqB_ext {l m : List Int} (h : l.length = m.length) (q : ∀ i : Nat, i < l.length → el l (i : Int) = el m (i : Int)) : l = m := by
  apply List.ext_getElem h
  intro i h1 h2
  have := q i h1
  simpa [el, h1, h2] using this

theorem kn_T {x y : List Int} {sm : Bool} {j : Nat} (h : sm = true ↔ ∀ i : Nat, i < j → el x (i : Int) = el y (i : Int)) (hs : sm = true) : (decide (el x (j : Int) = el y (j : Int)) = true ↔ ∀ i : Nat, i < j + 1 → el x (i : Int) = el y (i : Int)) := by
  rw [decide_eq_true_eq]
  constructor
  · intro e i hi
    by_cases q : i = j
    · subst q; exact e
    · exact h.1 hs i (by omega)
  · exact fun q => q j (by omega)
theorem kn_F {x y : List Int} {sm : Bool} {j : Nat} (h : sm = true ↔ ∀ i : Nat, i < j → el x (i : Int) = el y (i : Int)) (hs : sm = false) : (false = true ↔ ∀ i : Nat, i < j + 1 → el x (i : Int) = el y (i : Int)) := by
  constructor
  · intro q; cases q
  · intro q
    have := h.2 (fun i hi => q i (by omega))
    rw [hs] at this; exact this

set_option maxHeartbeats 1000000 in
set_option maxRecDepth 100000 in
theorem ref35_known_ok (rows : List Pw) (ap : Option Addr) (cp bs : Nat) (B U : Int) (sa : Option Addr) (sc : Nat) (pa : Option Addr) (pc : Nat) (sn : List Rw) (K : List Rw) (pl at_ : List Int) (aa : Option Addr) (ca la ha_ tp hs_ : Nat) (w : World) (hbs : Blk w bs [.slice ap rows.length cp, .int .i64 B, .int .i64 U, .slice sa sn.length sc, .slice pa pl.length pc]) (hsa : Ow 22 encRw 1 (bs + 1) hs_ w sa sc sn) (hrw : RfI bs tp w sa pa (sn ++ K)) (hA : Ints la ha_ w aa at_) (hS1 : ∀ r ∈ sn, r.l.length = at_.length) (hl10 : at_.length ≤ 10) (hsl : sn.length ≤ 1048577) (m : Nat) (hm : m = at_.length) : Cal Try.prog 52 [.pointer (some ⟨bs, 0, none⟩), .slice aa m ca] w (fun v w' => ∃ b, v = .bool b ∧ (b = true ↔ at_ ∈ sn.map (·.l)) ∧ Ext w w') := by
  subst hm
  have hE : Out 0 0 w w := Out.refl _ _ w
  refine enter Try.func52 rfl Try.ntmps52 rfl ?_
  refine wp_seq ?_
  refine rg ?_
  refine st (asB rfl) ?_
  refine rg_end ?_
  refine n_then ?_
  refine wp_seq ?_
  refine wp_seq ?_
  refine rg ?_
  refine st (mvP rfl) ?_
  refine st (y_nil rfl) ?_
  refine st (y_fld fld68_3 rfl) ?_
  refine st (y_lb hbs na66 rfl rfl) ?_
  refine st (y_len Try.underlying66 rfl) ?_
  refine st (mvI rfl) ?_
  refine rg_end ?_
  refine n_then ?_
  refine wp_block ?_
  refine lp (γ := Nat) [4, 6, 7, 8, 14, 15, 16, 17, 18, 19, 20, 21, 22, 23, 24, 25, 26, 27, 28, 29, 30, 31, 32, 33, 34, 35, 36, 37] (fun k => [(14, .int .i64 (k : Int))]) (fun k w_ => Ext w w_ ∧ (k : Int) ≤ sn.length ∧ ∀ q : Nat, q < k → (el sn (q : Int)).l ≠ at_) (fun k => sn.length - k) 0 ⟨rfl, trivial⟩ ⟨Out.refl _ _ _, by omega, fun q hq => by omega⟩ ?_
  rintro k hav_ w1 ⟨ho2, hk_, hno⟩
  have hlp0 := ho2
  have hz3 := ho2.size
  replace hbs := hbs.ext ho2
  replace hsa := hsa.ext ho2
  replace hrw := hrw.ext ho2
  replace hA := hA.ext ho2
  replace hE := hE.step ho2 (.inl (Nat.le_refl _))
  refine wp_seq ?_
  refine rg ?_
  refine st (y_lss rfl rfl) ?_
  refine rg_end ?_
  refine n_then ?_
  refine wp_seq ?_
  refine cnd rfl (fun hc0 => ?_) (fun hc0 => ?_)
  ·
    try simp only [decide_eq_true_eq, decide_eq_false_iff_not, Bool.not_eq_true', Bool.not_eq_false', Bool.and_eq_true, Bool.or_eq_true, Bool.or_eq_false_iff, Bool.cond_true_right, Bool.cond_false_right, Bool.cond_true_left, Bool.cond_false_left, ne_eq, Decidable.not_not, bne_iff_ne, beq_iff_eq, beq_eq_false_iff_ne, Bool.not_true, Bool.not_false] at hc0
    have hmr := el_mem (l := sn) (i := (k : Int)) (by omega) hc0
    obtain ⟨la1, ha1, hX, hX2, hX3⟩ := (hrw.row _ (List.mem_append_left _ hmr)).ex
    have hxl := hS1 _ hmr
    refine wp_skip ?_
    refine n_then ?_
    refine wp_seq ?_
    refine wp_block ?_
    refine wp_seq ?_
    refine rg ?_
    refine st (y_ix hsa.sl sl66 rfl (rfl) rfl (by omega) (by omega)) ?_
    refine st (y_le hsa.sl na22 rfl (by omega) (by omega) rfl) ?_
    refine st (asS rfl) ?_
    refine rg_end ?_
    refine n_then ?_
    refine wp_seq ?_
    refine rg ?_
    refine st (asB rfl) ?_
    refine rg_end ?_
    refine n_then ?_
    refine wp_seq ?_
    refine wp_seq ?_
    refine rg ?_
    refine st (mvS rfl) ?_
    refine st (y_len Try.underlying22 rfl) ?_
    refine st (mvI rfl) ?_
    refine rg_end ?_
    refine n_then ?_
    refine wp_block ?_
    refine lp (γ := Nat × Bool) [7, 8, 20, 21, 22, 23, 24, 25, 26, 27, 28, 29, 30, 31, 32, 33, 34, 35] (fun ⟨j, sm⟩ => [(20, .int .i64 (j : Int)), (7, .bool sm)]) (fun ⟨j, sm⟩ w_ => Ext w1 w_ ∧ (j : Int) ≤ at_.length ∧ (sm = true ↔ ∀ i : Nat, i < j → el (el sn (k : Int)).l (i : Int) = el at_ (i : Int))) (fun ⟨j, sm⟩ => at_.length - j) (0, true) ⟨rfl, rfl, trivial⟩ ⟨Out.refl _ _ _, by omega, ⟨fun _ i hi => by omega, fun _ => rfl⟩⟩ ?_
    rintro ⟨j, sm⟩ hav_ w4 ⟨ho5, hj_, hsm⟩
    have hlp1 := ho5
    have hz6 := ho5.size
    replace hbs := hbs.ext ho5
    replace hsa := hsa.ext ho5
    replace hrw := hrw.ext ho5
    replace hA := hA.ext ho5
    replace hE := hE.step ho5 (.inl (Nat.le_refl _))
    replace hlp0 := hlp0.step ho5 (.inl (Nat.le_refl _))
    replace hX := hX.ext ho5
    refine wp_seq ?_
    refine rg ?_
    refine st (y_lss rfl rfl) ?_
    refine rg_end ?_
    refine n_then ?_
    refine wp_seq ?_
    refine cnd rfl (fun hc1 => ?_) (fun hc1 => ?_)
    ·
      try simp only [decide_eq_true_eq, decide_eq_false_iff_not, Bool.not_eq_true', Bool.not_eq_false', Bool.and_eq_true, Bool.or_eq_true, Bool.or_eq_false_iff, Bool.cond_true_right, Bool.cond_false_right, Bool.cond_true_left, Bool.cond_false_left, ne_eq, Decidable.not_not, bne_iff_ne, beq_iff_eq, beq_eq_false_iff_ne, Bool.not_true, Bool.not_false] at hc1
      refine wp_skip ?_
      refine n_then ?_
      refine wp_seq ?_
      refine wp_block ?_
      refine wp_seq ?_
      refine rg ?_
      refine st (mvI rfl) ?_
      refine st (asI rfl) ?_
      refine rg_end ?_
      refine n_then ?_
      have hj1 := hc1
      refine rgD 10 (fun w_ => Ext w4 w_) (fun i => false) mixed (by kernel_rfl) ?_
      intro w7 ho8 hs9
      refine ⟨ho8, ?_⟩
      have hx10 := ho8
      refine tn rfl (fun _ hG => mvB rfl) ?_
      refine tn rfl (fun _ hG => mvB rfl) ?_
      refine gspT 24 rfl (fun hg11 => ?_) (fun hg11 => ?_)
      ·
        have hg11n := hg11; try simp only [decide_eq_true_eq, decide_eq_false_iff_not, Bool.not_eq_true', Bool.not_eq_false', Bool.and_eq_true, Bool.or_eq_true, Bool.or_eq_false_iff, Bool.cond_true_right, Bool.cond_false_right, Bool.cond_true_left, Bool.cond_false_left, ne_eq, Decidable.not_not, bne_iff_ne, beq_iff_eq, beq_eq_false_iff_ne, Bool.not_true, Bool.not_false] at hg11n
        refine tng rfl rfl rfl hg11 (fun _ hG => mvS rfl) ?_
        refine tng rfl rfl rfl hg11 (fun _ hG => mvI rfl) ?_
        refine tng rfl rfl rfl hg11 (fun _ hG => y_ix (hX.ext hG) sl22 rfl (rfl) rfl (by omega) (by omega)) ?_
        refine tng rfl rfl rfl hg11 (fun _ hG => y_le (hX.ext hG) na3 rfl (by omega) (by omega) rfl) ?_
        refine tng rfl rfl rfl hg11 (fun _ hG => mvS rfl) ?_
        refine tng rfl rfl rfl hg11 (fun _ hG => mvI rfl) ?_
        refine tng rfl rfl rfl hg11 (fun _ hG => y_ix (hA.ext hG) sl22 rfl (rfl) rfl (by omega) (by omega)) ?_
        refine tng rfl rfl rfl hg11 (fun _ hG => y_le (hA.ext hG) na3 rfl (by omega) (by omega) rfl) ?_
        refine t_end ?_
        have hz12 := hx10.size
        replace hbs := hbs.ext hx10
        replace hsa := hsa.ext hx10
        replace hrw := hrw.ext hx10
        replace hA := hA.ext hx10
        replace hE := hE.step hx10 (.inl (Nat.le_refl _))
        replace hlp0 := hlp0.step hx10 (.inl (Nat.le_refl _))
        replace hX := hX.ext hx10
        replace hlp1 := hlp1.step hx10 (.inl (Nat.le_refl _))
        refine stg rfl rfl hg11 (y_eql rfl rfl) ?_
        refine st (y_pickT rfl hg11 (v := .bool _) rfl) ?_
        refine st (asB rfl) ?_
        refine rg_end ?_
        refine n_blk ?_
        refine n_then ?_
        refine rg ?_
        refine st (y_add rfl rfl (by omega)) ?_
        refine st (mvI rfl) ?_
        refine rg_end ?_
        exact n_then ⟨(j + 1, _), _, rfl, same_lk rfl (same_h0), ⟨rfl, rfl, trivial⟩, ⟨hlp1, by omega, (by first | exact kn_T hsm (by assumption) | exact kn_F hsm (by assumption))⟩, by first | omega | (dsimp only; omega)⟩
      ·
        have hg11n := hg11; try simp only [decide_eq_true_eq, decide_eq_false_iff_not, Bool.not_eq_true', Bool.not_eq_false', Bool.and_eq_true, Bool.or_eq_true, Bool.or_eq_false_iff, Bool.cond_true_right, Bool.cond_false_right, Bool.cond_true_left, Bool.cond_false_left, ne_eq, Decidable.not_not, bne_iff_ne, beq_iff_eq, beq_eq_false_iff_ne, Bool.not_true, Bool.not_false] at hg11n
        refine tns rfl rfl hg11 ?_
        refine tns rfl rfl hg11 ?_
        refine tns rfl rfl hg11 ?_
        refine tns rfl rfl hg11 ?_
        refine tns rfl rfl hg11 ?_
        refine tns rfl rfl hg11 ?_
        refine tns rfl rfl hg11 ?_
        refine tns rfl rfl hg11 ?_
        refine t_end ?_
        have hz13 := hx10.size
        replace hbs := hbs.ext hx10
        replace hsa := hsa.ext hx10
        replace hrw := hrw.ext hx10
        replace hA := hA.ext hx10
        replace hE := hE.step hx10 (.inl (Nat.le_refl _))
        replace hlp0 := hlp0.step hx10 (.inl (Nat.le_refl _))
        replace hX := hX.ext hx10
        replace hlp1 := hlp1.step hx10 (.inl (Nat.le_refl _))
        refine sts rfl rfl hg11 ?_
        refine st (y_pickF rfl hg11 (v := .bool _) rfl) ?_
        refine st (asB rfl) ?_
        refine rg_end ?_
        refine n_blk ?_
        refine n_then ?_
        refine rg ?_
        refine st (y_add rfl rfl (by omega)) ?_
        refine st (mvI rfl) ?_
        refine rg_end ?_
        exact n_then ⟨(j + 1, _), _, rfl, same_lk rfl (same_h0), ⟨rfl, rfl, trivial⟩, ⟨hlp1, by omega, (by first | exact kn_T hsm (by assumption) | exact kn_F hsm (by assumption))⟩, by first | omega | (dsimp only; omega)⟩
    ·
      try simp only [decide_eq_true_eq, decide_eq_false_iff_not, Bool.not_eq_true', Bool.not_eq_false', Bool.and_eq_true, Bool.or_eq_true, Bool.or_eq_false_iff, Bool.cond_true_right, Bool.cond_false_right, Bool.cond_true_left, Bool.cond_false_left, ne_eq, Decidable.not_not, bne_iff_ne, beq_iff_eq, beq_eq_false_iff_ne, Bool.not_true, Bool.not_false] at hc1
      have hje : j = at_.length := by omega
      subst hje
      refine wp_exit ?_
      refine e_then (e_then (e_blk (?_)))
      refine n_then ?_
      refine wp_seq ?_
      refine rg ?_
      refine st (mvB rfl) ?_
      refine rg_end ?_
      refine n_then ?_
      refine cnd rfl (fun hc2 => ?_) (fun hc2 => ?_)
      ·
        try simp only [decide_eq_true_eq, decide_eq_false_iff_not, Bool.not_eq_true', Bool.not_eq_false', Bool.and_eq_true, Bool.or_eq_true, Bool.or_eq_false_iff, Bool.cond_true_right, Bool.cond_false_right, Bool.cond_true_left, Bool.cond_false_left, ne_eq, Decidable.not_not, bne_iff_ne, beq_iff_eq, beq_eq_false_iff_ne, Bool.not_true, Bool.not_false] at hc2
        have hmem : at_ ∈ sn.map (·.l) := List.mem_map.2 ⟨_, hmr, (eqB_ext hxl.symm (fun i hi => ((hsm.1 hc2) i hi).symm)).symm⟩
        refine wp_seq ?_
        refine rg ?_
        refine st (asB rfl) ?_
        refine rg_end ?_
        refine n_then ?_
        refine wp_ret ?_
        refine r_blk (r_then (r_then (r_blk (r_then (ret1 (v := (.bool _)) Try.results52 rfl ?_)))))
        exact ⟨true, rfl, ⟨fun _ => hmem, fun _ => rfl⟩, hE⟩
      ·
        try simp only [decide_eq_true_eq, decide_eq_false_iff_not, Bool.not_eq_true', Bool.not_eq_false', Bool.and_eq_true, Bool.or_eq_true, Bool.or_eq_false_iff, Bool.cond_true_right, Bool.cond_false_right, Bool.cond_true_left, Bool.cond_false_left, ne_eq, Decidable.not_not, bne_iff_ne, beq_iff_eq, beq_eq_false_iff_ne, Bool.not_true, Bool.not_false] at hc2
        have hno1 : ∀ q : Nat, q < k + 1 → (el sn (q : Int)).l ≠ at_ := fun q hq => by
          by_cases e : q = k
          · subst e; intro e2
            have := hsm.2 (fun i hi => by rw [e2])
            rw [hc2] at this; cases this
          · exact hno q (by omega)
        refine wp_skip ?_
        refine n_blk ?_
        refine n_then ?_
        refine rg ?_
        refine st (y_add rfl rfl (by omega)) ?_
        refine st (mvI rfl) ?_
        refine rg_end ?_
        exact n_then ⟨k + 1, _, rfl, same_lk rfl (same_hav rfl (same_lk rfl (same_h0))), ⟨rfl, trivial⟩, ⟨hlp0, by omega, hno1⟩, by first | omega | (dsimp only; omega)⟩
  ·
    try simp only [decide_eq_true_eq, decide_eq_false_iff_not, Bool.not_eq_true', Bool.not_eq_false', Bool.and_eq_true, Bool.or_eq_true, Bool.or_eq_false_iff, Bool.cond_true_right, Bool.cond_false_right, Bool.cond_true_left, Bool.cond_false_left, ne_eq, Decidable.not_not, bne_iff_ne, beq_iff_eq, beq_eq_false_iff_ne, Bool.not_true, Bool.not_false] at hc0
    have hke : k = sn.length := by omega
    refine wp_exit ?_
    refine e_then (e_then (e_blk (?_)))
    refine n_then ?_
    refine wp_seq ?_
    refine rg ?_
    refine st (asB rfl) ?_
    refine rg_end ?_
    refine n_then ?_
    refine wp_ret ?_
    refine ret1 (v := (.bool _)) Try.results52 rfl ?_
    have hnm : ¬ at_ ∈ sn.map (·.l) := fun h => by
      obtain ⟨r, hr, e⟩ := List.mem_map.1 h
      obtain ⟨q, hq, rfl⟩ := List.getElem_of_mem hr
      refine absurd e ?_
      have := hno q (by omega)
      simpa [el, hq] using this
    exact ⟨false, rfl, ⟨(fun h => by cases h), fun h => absurd h hnm⟩, hE⟩
end Go.Proofs.Yteicgnmggkhlbaa
