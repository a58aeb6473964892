/-
  Walks of the functions, printed by a program out of the code and the loops' relations.
-/
import Derived.Test.YtclligkngjhihaaWkH
import Derived.Test.YtclligkngjhihaaProg
import Derived.KernelRfl
import Derived.Test.YtclligkngjhihaaH3
namespace Go.Proofs.Ytclligkngjhihaa
open Go.Wk Go.RowKit
set_option linter.unusedVariables false
set_option linter.unusedSimpArgs false
theorem agg46 : AggOf Try.prog 46 2 := fun w => ⟨Try.isAgg46 w, Try.sizeOf46 w⟩
theorem bld46_  (w : World) : (Instr.build 46 [].toArray).run Try.prog w = .ok (.agg [.slice none 0 0, .slice none 0 0].toArray) w := by kernel_rfl
theorem bld78_0 (a0 : Int) (w : World) : (Instr.build 78 [(0, (.int .i64 a0))].toArray).run Try.prog w = .ok (.agg [(.int .i64 a0), .int .i64 0].toArray) w := by kernel_rfl
theorem bsl44_1 (d0 : Option Addr) (l0 : Nat) (c0 : Nat) (w : World) : (Instr.buildSlice 44 1 [(0, (.slice d0 l0 c0))].toArray).run Try.prog w = .ok (.slice (some ⟨w.heap.size, 0, none⟩) 1 1) (w.alloc (.cells [(.slice d0 l0 c0)].toArray 22)) := by kernel_rfl
theorem cl42 : Callable Try.prog 42 := ⟨Try.call42⟩
theorem cl43 : Callable Try.prog 43 := ⟨Try.call43⟩
theorem fld46_0 : FieldOf Try.prog 46 0 0 := fun b o w => by simp [Instr.fieldAt, fieldPlace, Instr.sureAddr, Addr.add_lit]
theorem fld46_1 : FieldOf Try.prog 46 1 1 := fun b o w => by simp [Instr.fieldAt, fieldPlace, Instr.sureAddr, Addr.add_lit]
set_option maxRecDepth 100000 in
theorem infoz22 : ∃ i, Try.prog.info? 22 = some i ∧ i.zero = some (.slice none 0 0) ∧ i.size = 1 ∧ i.bytes = 24 ∧ (Value.cells (.slice none 0 0)).size = 1 := ⟨Try.t22, Try.type22, rfl, rfl, rfl, rfl⟩
theorem sz46 : SzOf Try.prog 46 2 := Try.sizeOf46
theorem zer46 : ZeroOf Try.prog 46 (.agg [.slice none 0 0, .slice none 0 0].toArray) := Try.zeroValue46

theorem sfE_ne {N : Net} {L : Int} (h : ¬ sfE N L = 0) : sfE N L = 15 := by
  by_cases h1 : L = 0
  · unfold sfE; rw [if_pos h1]
  · by_cases h2 : findE N false L = 15
    · unfold sfE; rw [if_neg h1, if_pos h2]
    · exact absurd (by unfold sfE; rw [if_neg h1, if_neg h2]) h
theorem cf1 {N : Net} {B : Int} (h : netOk N = false) : cfE N B = 1 := by unfold cfE; rw [if_neg (by rw [h]; decide)]
theorem cf4 {N : Net} {B : Int} (h : netOk N = true) (hB : ¬ (1 ≤ B ∧ B ≤ 1048576)) : cfE N B = 4 := by unfold cfE; rw [if_pos h, if_neg hB]
theorem cf15 {N : Net} {B : Int} (h : netOk N = true) (hB : 1 ≤ B ∧ B ≤ 1048576) (hs : ¬ sfE N B = 0) : cfE N B = 15 := by unfold cfE; rw [if_pos h, if_pos hB, if_neg hs]
theorem cf6 {N : Net} {B : Int} (h : netOk N = true) (hB : 1 ≤ B ∧ B ≤ 1048576) (hs : sfE N B = 0) (hb : sfB N B = true) : cfE N B = 6 := by unfold cfE; rw [if_pos h, if_pos hB, if_pos hs, if_pos hb]
theorem cfN {N : Net} {B : Int} {k : Nat} (h : netOk N = true) (hB : 1 ≤ B ∧ B ≤ 1048576) (hs : sfE N B = 0) (hb : sfB N B = false) (hk : k ≤ N.acts.length) (hr : runTo N B k = none) : cfE N B = 15 := by
  unfold cfE; rw [if_pos h, if_pos hB, if_pos hs, if_neg (by rw [hb]; decide), runTo_none _ hk hr]
theorem cf0 {N : Net} {B : Int} {s : FS} (h : netOk N = true) (hB : 1 ≤ B ∧ B ≤ 1048576) (hs : sfE N B = 0) (hb : sfB N B = false) (hr : runTo N B N.acts.length = some s) : cfE N B = 0 ∧ cfS N B = setB s.b ∧ cfW N B = s.wit ∧ cfU N B = s.used := by
  have e : cfE N B = 0 := by unfold cfE; rw [if_pos h, if_pos hB, if_pos hs, if_neg (by rw [hb]; decide), hr]
  refine ⟨e, ?_, ?_, ?_⟩
  · unfold cfS; rw [if_pos e, hr]
  · unfold cfW; rw [if_pos e, hr]
  · unfold cfU; rw [if_pos e, hr]
theorem allT {b : List Bool} {n : Nat} (hl : b.length = n) (h : ∀ p : Nat, p < n → el b (p : Int) = true) : b = List.replicate n true := by
  apply List.ext_getElem
  · simp [hl]
  · intro i h1 h2
    have := h i (by omega)
    simpa [el, h1] using this
theorem run_none {N : Net} {B : Int} {k : Nat} {s : FS} (hr : runTo N B k = some s) (h : ¬ sfE (subN N (setB (s.b.set k false))) s.left = 0) : runTo N B (k + 1) = none := by
  rw [runTo, hr]; show stepF N k s = none; unfold stepF; rw [if_neg h]
theorem run_T {N : Net} {B : Int} {k : Nat} {s : FS} (hr : runTo N B k = some s) (h : sfE (subN N (setB (s.b.set k false))) s.left = 0) (hb : sfB (subN N (setB (s.b.set k false))) s.left = true) :
    runTo N B (k + 1) = some ⟨s.left - sfU (subN N (setB (s.b.set k false))) s.left, s.used + sfU (subN N (setB (s.b.set k false))) s.left, s.b, s.wit ++ [sfT (subN N (setB (s.b.set k false))) s.left]⟩ := by
  rw [runTo, hr]; show stepF N k s = _; unfold stepF; rw [if_pos h, if_pos hb, if_pos hb]
theorem run_F {N : Net} {B : Int} {k : Nat} {s : FS} (hr : runTo N B k = some s) (h : sfE (subN N (setB (s.b.set k false))) s.left = 0) (hb : sfB (subN N (setB (s.b.set k false))) s.left = false) :
    runTo N B (k + 1) = some ⟨s.left - sfU (subN N (setB (s.b.set k false))) s.left, s.used + sfU (subN N (setB (s.b.set k false))) s.left, s.b.set k false, s.wit⟩ := by
  rw [runTo, hr]; show stepF N k s = _; unfold stepF; rw [if_pos h, if_neg (by rw [hb]; decide), if_neg (by rw [hb]; decide)]
theorem setSelf {b : List Bool} {k : Nat} (h : el b (k : Int) = true) (hk : k < b.length) : (b.set k false).set k true = b := by
  have : b[k] = true := by simpa [el, hk] using h
  rw [List.set_set, ← this]; exact List.set_getElem_self hk
theorem run0 {N : Net} {B : Int} {b : List Bool} (hl : b.length = N.acts.length) (h : ∀ p : Nat, p < N.acts.length → el b (p : Int) = true) : runTo N B 0 = some ⟨B - sfU N B, 0 + sfU N B, b, []⟩ := by
  rw [runTo, allT hl h, Int.zero_add]
theorem WRows.wit {z hi lo : Nat} {w : World} {aw : Option Addr} {rows : List Rw} {hi' : Nat} (h : WRows z hi w aw rows) (h1 : lo ≤ z) (h2 : hi ≤ hi') (ht : Sl encRw 1 lo hi' w aw rows) : WitIn lo hi' w aw rows :=
  ⟨ht, fun r hr => by obtain ⟨l1, h1, a1, a2, a3, _⟩ := h.row r hr; exact Sl.wide a1 (by omega) (by omega)⟩

theorem con_membersN_ok (ab : Option Addr) (cb : Nat) (b : List Bool) (lb hb : Nat) (w : World) (m : Nat) (hm : b.length = m) (hB : Sl encB 1 lb hb w ab b) (hn : (b.length : Int) ≤ 1000000) : Cal Try.prog 43 [.slice ab m cb] w (fun v w' => ∃ ad c, v = .slice ad (setB b).length c ∧ (setB b).length ≤ c ∧ Ints w.heap.size w'.heap.size w' ad (setB b) ∧ Ext w w') := by
  subst hm; exact con_members_ok ab cb b lb hb w hB hn
theorem nilS {α : Type} {enc : α → List Value} {sz lo hi : Nat} {w : World} : Sl enc sz lo hi w none ([] : List α) := ⟨fun h => absurd rfl h, fun i x hx => by simp at hx⟩

set_option maxHeartbeats 2000000 in
set_option maxRecDepth 100000 in
theorem con_Find_ok (N : Net) (A : NetA) (lo hi : Nat) (B : Int) (w : World) (hN : NetIn lo hi w N A)  : Cal Try.prog 21 [netV N A, .int .i64 B] w (fun v w' => ∃ as_ cs aw cw rows, v = .tuple #[.agg #[.slice as_ (cfS N B).length cs, .slice aw rows.length cw], .int .i64 (cfU N B), .int .i64 (cfE N B)] ∧ (cfS N B).length ≤ cs ∧ Ints w.heap.size w'.heap.size w' as_ (cfS N B) ∧ WitIn w.heap.size w'.heap.size w' aw rows ∧ rows.map Rw.l = cfW N B ∧ Ext w w') := by
 replace hN := hN.full
 have hE : Out 0 0 w w := Out.refl _ _ w
 refine enter Try.func21 rfl Try.ntmps21 rfl ?_
 refine wp_seq ?_
 refine rg ?_
 refine sd (d_boxA rfl ?_)
 intro b2 w1 hbb2 hs3 ho2 hb2
 have hz4 := ho2.size
 replace hN := hN.ext ho2
 replace hE := hE.step ho2 (.inl (Nat.le_refl _))
 refine sd (d_allocA zer46 ?_)
 intro b4 w5 hbb4 hs7 ho6 hb4
 have hz8 := ho6.size
 replace hN := hN.ext ho6
 replace hE := hE.step ho6 (.inl (Nat.le_refl _))
 replace hb2 := hb2.ext ho6
 refine st (asI rfl) ?_
 refine st (asI rfl) ?_
 refine rg_end ?_
 refine n_then ?_
 refine wp_seq ?_
 refine wp_seq ?_
 refine rg ?_
 refine st (y_lbN hb2 agg26 rfl) ?_
 refine sc cl34 (network_Check_ok N A _ _ _ hN) rfl ?_
 rintro v13 w9 ⟨rfl, ho10⟩
 have hz14 := ho10.size
 replace hN := hN.ext ho10
 replace hE := hE.step ho10 (.inl (Nat.le_refl _))
 replace hb2 := hb2.ext ho10
 replace hb4 := hb4.ext ho10
 refine st (y_not rfl) ?_
 refine rg_end ?_
 refine n_then ?_
 refine cnd rfl (fun hc0 => ?_) (fun hc0 => ?_)
 ·
  try simp only [nm] at hc0
  have e1 := cf1 (B := B) hc0
  refine wp_seq ?_
  refine rg ?_
  refine st (y_build (bld46_ _) rfl) ?_
  refine sd0 (d_stN hb4 rfl rfl sz46 rfl rfl ?_)
  intro w15 hs17 ho16 hb4'
  clear hb4; have hb4 := hb4'; clear hb4'
  have hz18 := ho16.size
  replace hN := hN.out ho16 (by first | omega | (simp only [blk_some, hi1_some] at *; omega))
  replace hE := hE.step ho16 (by first | omega | (simp only [blk_some, hi1_some] at *; omega))
  replace hb2 := hb2.out ho16 (by first | omega | (simp only [blk_some, hi1_some] at *; omega))
  refine st (asI rfl) ?_
  refine st (asI rfl) ?_
  refine rg_end ?_
  refine n_then ?_
  refine wp_ret ?_
  refine r_then (retC3 (v' := (.int .i64 _)) (v'' := (.int .i64 _)) Try.results21 hb4 agg46 rfl rfl rfl ?_)
  exact ⟨none, 0, none, 0, [], by simp [cfS, cfU, e1], by simp [cfS, e1], by simp [cfS, e1]; exact nilI _ _ _, ⟨nilS, fun r hr => by cases hr⟩, by simp [cfW, e1], hE⟩
 ·
  try simp only [nm] at hc0
  have hok := netOk_iff.1 hc0
  have hac := hok.ac
  have hev := hok.ev
  refine wp_skip ?_
  refine n_then ?_
  refine wp_seq ?_
  refine wp_seq ?_
  refine rg ?_
  refine st (mvI rfl) ?_
  refine st (y_lss rfl rfl) ?_
  refine st (mvB rfl) ?_
  refine gspL 24 rfl (fun hg19 => ?_) (fun hg19 => ?_)
  ·
   have hg19n := hg19; try simp only [nm] at hg19n
   refine sts rfl rfl hg19 ?_
   refine sts rfl rfl hg19 ?_
   refine st (y_pickT rfl hg19 (v := .bool _) rfl) ?_
   refine rg_end ?_
   refine n_then ?_
   refine cnd rfl (fun hc1 => ?_) (fun hc1 => absurd hc1 (by decide))
   have e1 : cfE N B = 4 := cf4 hc0 (by omega)
   refine wp_seq ?_
   refine rg ?_
   refine st (y_build (bld46_ _) rfl) ?_
   refine sd0 (d_stN hb4 rfl rfl sz46 rfl rfl ?_)
   intro w20 hs22 ho21 hb4'
   clear hb4; have hb4 := hb4'; clear hb4'
   have hz23 := ho21.size
   replace hN := hN.out ho21 (by first | omega | (simp only [blk_some, hi1_some] at *; omega))
   replace hE := hE.step ho21 (by first | omega | (simp only [blk_some, hi1_some] at *; omega))
   replace hb2 := hb2.out ho21 (by first | omega | (simp only [blk_some, hi1_some] at *; omega))
   refine st (asI rfl) ?_
   refine st (asI rfl) ?_
   refine rg_end ?_
   refine n_then ?_
   refine wp_ret ?_
   refine r_then (retC3 (v' := (.int .i64 _)) (v'' := (.int .i64 _)) Try.results21 hb4 agg46 rfl rfl rfl ?_)
   exact ⟨none, 0, none, 0, [], by simp [cfS, cfU, e1], by simp [cfS, e1], by simp [cfS, e1]; exact nilI _ _ _, ⟨nilS, fun r hr => by cases hr⟩, by simp [cfW, e1], hE⟩
  ·
   have hg19n := hg19; try simp only [nm] at hg19n
   refine stg rfl rfl hg19 (mvI rfl) ?_
   refine stg rfl rfl hg19 (y_gtr rfl rfl) ?_
   refine st (y_pickF rfl hg19 (v := .bool _) rfl) ?_
   refine rg_end ?_
   refine n_then ?_
   refine cnd rfl (fun hc1 => ?_) (fun hc1 => ?_)
   ·
    try simp only [nm] at hc1
    have e1 : cfE N B = 4 := cf4 hc0 (by omega)
    refine wp_seq ?_
    refine rg ?_
    refine st (y_build (bld46_ _) rfl) ?_
    refine sd0 (d_stN hb4 rfl rfl sz46 rfl rfl ?_)
    intro w24 hs26 ho25 hb4'
    clear hb4; have hb4 := hb4'; clear hb4'
    have hz27 := ho25.size
    replace hN := hN.out ho25 (by first | omega | (simp only [blk_some, hi1_some] at *; omega))
    replace hE := hE.step ho25 (by first | omega | (simp only [blk_some, hi1_some] at *; omega))
    replace hb2 := hb2.out ho25 (by first | omega | (simp only [blk_some, hi1_some] at *; omega))
    refine st (asI rfl) ?_
    refine st (asI rfl) ?_
    refine rg_end ?_
    refine n_then ?_
    refine wp_ret ?_
    refine r_then (retC3 (v' := (.int .i64 _)) (v'' := (.int .i64 _)) Try.results21 hb4 agg46 rfl rfl rfl ?_)
    exact ⟨none, 0, none, 0, [], by simp [cfS, cfU, e1], by simp [cfS, e1], by simp [cfS, e1]; exact nilI _ _ _, ⟨nilS, fun r hr => by cases hr⟩, by simp [cfW, e1], hE⟩
   ·
    try simp only [nm] at hc1
    have hB : 1 ≤ B ∧ B ≤ 1048576 := by omega
    refine wp_skip ?_
    refine n_then ?_
    refine wp_seq ?_
    refine rg ?_
    refine st (mvI rfl) ?_
    refine st (y_build (bld78_0 _ _) rfl) ?_
    refine sd (d_boxA rfl ?_)
    intro bs w28 hbbs hs30 ho29 hbs
    have hz31 := ho29.size
    replace hN := hN.ext ho29
    replace hE := hE.step ho29 (.inl (Nat.le_refl _))
    replace hb2 := hb2.ext ho29
    replace hb4 := hb4.ext ho29
    refine st (asP rfl) ?_
    refine rg_end ?_
    refine n_then ?_
    refine wp_seq ?_
    refine wp_seq ?_
    refine rg ?_
    refine st (mvP rfl) ?_
    refine st (y_lbN hb2 agg26 rfl) ?_
    refine sc cl42 (con_feasible_ok N A _ _ bs B 0 _ hN hbs (by omega) (by omega) (by omega)) rfl ?_
    rintro v36 w32 ⟨at1, ct1, rfl, hT1, hbs, ho33⟩
    have hz37 := ho33.size
    replace hN := hN.out ho33 (by first | omega | (simp only [blk_some, hi1_some] at *; omega))
    replace hE := hE.step ho33 (by first | omega | (simp only [blk_some, hi1_some] at *; omega))
    replace hb2 := hb2.out ho33 (by first | omega | (simp only [blk_some, hi1_some] at *; omega))
    replace hb4 := hb4.out ho33 (by first | omega | (simp only [blk_some, hi1_some] at *; omega))
    refine st (mvT rfl) ?_
    refine st (y_ext rfl rfl) ?_
    refine st (y_ext rfl rfl) ?_
    refine st (y_ext rfl rfl) ?_
    refine st (asS rfl) ?_
    refine st (asB rfl) ?_
    refine st (asI rfl) ?_
    refine rg_end ?_
    refine n_then ?_
    refine wp_seq ?_
    refine rg ?_
    refine st (mvI rfl) ?_
    refine st (y_neq rfl rfl) ?_
    refine rg_end ?_
    refine n_then ?_
    refine cnd rfl (fun hc2 => ?_) (fun hc2 => ?_)
    ·
     try simp only [nm] at hc2
     have e1 := cf15 hc0 hB hc2
     refine wp_seq ?_
     refine rg ?_
     refine st (y_build (bld46_ _) rfl) ?_
     refine st (mvI rfl) ?_
     refine sd0 (d_stN hb4 rfl rfl sz46 rfl rfl ?_)
     intro w38 hs40 ho39 hb4'
     clear hb4; have hb4 := hb4'; clear hb4'
     have hz41 := ho39.size
     replace hN := hN.out ho39 (by first | omega | (simp only [blk_some, hi1_some] at *; omega))
     replace hE := hE.step ho39 (by first | omega | (simp only [blk_some, hi1_some] at *; omega))
     replace hb2 := hb2.out ho39 (by first | omega | (simp only [blk_some, hi1_some] at *; omega))
     replace hbs := hbs.out ho39 (by first | omega | (simp only [blk_some, hi1_some] at *; omega))
     replace hT1 := hT1.out ho39 (by first | omega | (simp only [blk_some, hi1_some] at *; omega))
     refine st (asI rfl) ?_
     refine st (asI rfl) ?_
     refine rg_end ?_
     refine n_then ?_
     refine wp_ret ?_
     refine r_then (retC3 (v' := (.int .i64 _)) (v'' := (.int .i64 _)) Try.results21 hb4 agg46 rfl rfl rfl ?_)
     rw [sfE_ne hc2]
     exact ⟨none, 0, none, 0, [], by simp [cfS, cfU, e1], by simp [cfS, e1], by simp [cfS, e1]; exact nilI _ _ _, ⟨nilS, fun r hr => by cases hr⟩, by simp [cfW, e1], hE⟩
    ·
     try simp only [nm] at hc2
     refine wp_seq ?_
     refine rg ?_
     refine st (mvB rfl) ?_
     refine rg_end ?_
     refine n_then ?_
     refine cnd rfl (fun hc3 => ?_) (fun hc3 => ?_)
     ·
      try simp only [nm] at hc3
      have e1 := cf6 hc0 hB hc2 hc3
      refine wp_seq ?_
      refine rg ?_
      refine st (y_build (bld46_ _) rfl) ?_
      refine sd0 (d_stN hb4 rfl rfl sz46 rfl rfl ?_)
      intro w42 hs44 ho43 hb4'
      clear hb4; have hb4 := hb4'; clear hb4'
      have hz45 := ho43.size
      replace hN := hN.out ho43 (by first | omega | (simp only [blk_some, hi1_some] at *; omega))
      replace hE := hE.step ho43 (by first | omega | (simp only [blk_some, hi1_some] at *; omega))
      replace hb2 := hb2.out ho43 (by first | omega | (simp only [blk_some, hi1_some] at *; omega))
      replace hbs := hbs.out ho43 (by first | omega | (simp only [blk_some, hi1_some] at *; omega))
      replace hT1 := hT1.out ho43 (by first | omega | (simp only [blk_some, hi1_some] at *; omega))
      refine st (asI rfl) ?_
      refine st (asI rfl) ?_
      refine rg_end ?_
      refine n_then ?_
      refine wp_ret ?_
      refine r_then (retC3 (v' := (.int .i64 _)) (v'' := (.int .i64 _)) Try.results21 hb4 agg46 rfl rfl rfl ?_)
      exact ⟨none, 0, none, 0, [], by simp [cfS, cfU, e1], by simp [cfS, e1], by simp [cfS, e1]; exact nilI _ _ _, ⟨nilS, fun r hr => by cases hr⟩, by simp [cfW, e1], hE⟩
     ·
      try simp only [nm] at hc3
      have hu0 := sfU_rng N B (by omega)
      refine wp_skip ?_
      refine n_then ?_
      refine wp_seq ?_
      refine rg ?_
      refine st (y_fld fld26_2 rfl) ?_
      refine st (y_lb hb2 na24 rfl rfl) ?_
      refine st (y_len Try.underlying24 rfl) ?_
      refine sd (d_make (m := N.acts.length) (lo := w32.heap.size) (enc := encB) (e0 := false) sl81 info4 (fun _ => rfl) rfl rfl rfl (by omega) (by unfold maxLen; omega) (by omega) ?_)
      intro bi w46 hbbi hs48 ho47 hb
      have hz50 := ho47.size
      replace hN := hN.ext ho47
      replace hE := hE.step ho47 (.inl (Nat.le_refl _))
      replace hb2 := hb2.ext ho47
      replace hb4 := hb4.ext ho47
      replace hbs := hbs.ext ho47
      refine st (asS rfl) ?_
      refine rg_end ?_
      refine n_then ?_
      refine wp_seq ?_
      refine wp_seq ?_
      refine rg ?_
      refine st (mvS rfl) ?_
      refine st (y_len Try.underlying81 rfl) ?_
      refine st (mvI rfl) ?_
      refine rg_end ?_
      refine n_then ?_
      refine wp_block ?_
      refine lp (γ := Nat × List Bool) [12, 51, 52, 53, 54, 55, 56, 57] (fun ⟨k, b⟩ => [(51, .int .i64 (k : Int))]) (fun ⟨k, b⟩ w_ => Out bi (bi + 1) w46 w_ ∧ (k : Int) ≤ N.acts.length ∧ b.length = N.acts.length ∧ (∀ p : Nat, p < k → el b (p : Int) = true) ∧ Ow 4 encB 1 bi (bi + 1) w_ (some ⟨bi, 0, none⟩) N.acts.length b) (fun ⟨k, b⟩ => N.acts.length - k) (0, List.replicate N.acts.length false) ⟨rfl, trivial⟩ ⟨Out.refl _ _ _, by simp, by simp, (fun p hp => by omega), hb.lower (by omega)⟩ ?_
      rintro ⟨k, b⟩ hav_ w51 ⟨ho52, hk, hbl, hbt, hb⟩
      have hlp0 := ho52
      have hz53 := ho52.size
      replace hN := hN.out ho52 (by first | omega | (simp only [blk_some, hi1_some] at *; omega))
      replace hE := hE.step ho52 (by first | omega | (simp only [blk_some, hi1_some] at *; omega))
      replace hb2 := hb2.out ho52 (by first | omega | (simp only [blk_some, hi1_some] at *; omega))
      replace hb4 := hb4.out ho52 (by first | omega | (simp only [blk_some, hi1_some] at *; omega))
      replace hbs := hbs.out ho52 (by first | omega | (simp only [blk_some, hi1_some] at *; omega))
      refine wp_seq ?_
      refine rg ?_
      refine st (y_lss rfl rfl) ?_
      refine rg_end ?_
      refine n_then ?_
      refine wp_seq ?_
      refine cnd rfl (fun hc4 => ?_) (fun hc4 => ?_)
      ·
       try simp only [nm] at hc4
       refine wp_skip ?_
       refine n_then ?_
       refine wp_seq ?_
       refine wp_block ?_
       refine wp_seq ?_
       refine rg ?_
       refine st (mvI rfl) ?_
       refine st (asI rfl) ?_
       refine rg_end ?_
       refine n_then ?_
       refine rg ?_
       refine st (mvS rfl) ?_
       refine st (mvI rfl) ?_
       refine st (y_ix hb.sl sl81 rfl (hbl.symm) rfl (by omega) (by omega)) ?_
       refine sd0 (d_se (j := 0) (e' := true) hb sz4 rfl rfl rfl (by omega) (by omega) (Nat.le_of_ble_eq_true rfl) rfl ?_)
       intro w54 hs56 ho55 hb'
       have hrhb := hb.rng
       clear hb; have hb := hb'; clear hb'
       have hz57 := ho55.size
       replace hN := hN.out ho55 (by first | omega | (simp only [blk_some, hi1_some] at *; omega))
       replace hE := hE.step ho55 (by first | omega | (simp only [blk_some, hi1_some] at *; omega))
       replace hb2 := hb2.out ho55 (by first | omega | (simp only [blk_some, hi1_some] at *; omega))
       replace hb4 := hb4.out ho55 (by first | omega | (simp only [blk_some, hi1_some] at *; omega))
       replace hbs := hbs.out ho55 (by first | omega | (simp only [blk_some, hi1_some] at *; omega))
       replace hlp0 := hlp0.step ho55 (by first | omega | (simp only [blk_some, hi1_some] at *; omega))
       refine rg_end ?_
       refine n_blk ?_
       refine n_then ?_
       refine rg ?_
       refine st (y_add rfl rfl (by omega)) ?_
       refine st (mvI rfl) ?_
       refine rg_end ?_
       exact n_then ⟨(k + 1, _), _, rfl, same_lk rfl (same_h0), ⟨rfl, trivial⟩, ⟨hlp0, by omega, by simp [hbl], (fun p hp => by
  by_cases e : p = k
  · subst e; exact elSetS (by omega) (by omega)
  · rw [elSetN (by omega) (by omega) (by omega)]; exact hbt p (by omega)), hb⟩, by first | omega | (dsimp only; omega)⟩
      ·
       try simp only [nm] at hc4
       have hrun0 : runTo N B 0 = some ⟨B - sfU N B, 0 + sfU N B, b, []⟩ := run0 hbl (fun p hp => hbt p (by omega))
       refine wp_exit ?_
       refine e_then (e_then (e_blk (?_)))
       refine n_then ?_
       refine wp_seq ?_
       refine rg ?_
       refine sd (d_allocA zer46 ?_)
       intro b13 w58 hbb13 hs60 ho59 hb13
       have hz61 := ho59.size
       replace hN := hN.ext ho59
       replace hE := hE.step ho59 (.inl (Nat.le_refl _))
       replace hb2 := hb2.ext ho59
       replace hb4 := hb4.ext ho59
       replace hbs := hbs.ext ho59
       replace hb := hb.ext ho59
       refine rg_end ?_
       refine n_then ?_
       refine wp_seq ?_
       refine wp_seq ?_
       refine rg ?_
       refine st (mvS rfl) ?_
       refine st (y_len Try.underlying81 rfl) ?_
       refine st (mvI rfl) ?_
       refine rg_end ?_
       refine n_then ?_
       refine wp_block ?_
       obtain ⟨z1, hz1⟩ : ∃ z, z = w58.heap.size := ⟨_, rfl⟩
       refine lp (γ := Nat × FS × List Rw × Option Addr × Nat) [5, 6, 14, 15, 16, 17, 60, 61, 62, 63, 64, 65, 66, 67, 68, 69, 70, 71, 72, 73, 74, 75, 76, 77, 78, 79, 80, 81, 82, 83, 84, 85, 86, 87, 88, 89, 90] (fun ⟨k, s, rows, aw, cw⟩ => [(60, .int .i64 (k : Int))]) (fun ⟨k, s, rows, aw, cw⟩ w_ => Out bs z1 w58 w_ ∧ (k : Int) ≤ N.acts.length ∧ runTo N B k = some s ∧ s.b.length = N.acts.length ∧ rows.map Rw.l = s.wit ∧ (rows.length : Int) ≤ k ∧ 0 ≤ s.left ∧ 0 ≤ s.used ∧ s.left + s.used ≤ 1048576 ∧ Blk w_ bs [.int .i64 s.left, .int .i64 s.used] ∧ Ow 4 encB 1 bi (bi + 1) w_ (some ⟨bi, 0, none⟩) N.acts.length s.b ∧ Blk w_ b13 [.slice none 0 0, .slice aw rows.length cw] ∧ Ow 22 encRw 1 z1 w_.heap.size w_ aw cw rows ∧ WRows z1 w_.heap.size w_ aw rows) (fun ⟨k, s, rows, aw, cw⟩ => N.acts.length - k) (0, ⟨_, _, b, []⟩, [], none, 0) ⟨rfl, trivial⟩ ⟨Out.refl _ _ _, by simp, hrun0, hbl, rfl, by simp, by (dsimp only; omega), by (dsimp only; omega), by (dsimp only; omega), hbs, hb, hb13, Ow.nil (fun _ => rfl), ⟨fun r hr => by cases hr⟩⟩ ?_
       rintro ⟨k, s, rows, aw, cw⟩ hav_ w62 ⟨ho63, hk, hrun, hbl, hrw, hrk, hs0, hs1, hs2, hbs, hb, hb13, hW, hR⟩
       have hlp1 := ho63
       have hz64 := ho63.size
       replace hN := hN.out ho63 (by first | omega | (simp only [blk_some, hi1_some] at *; omega))
       replace hE := hE.step ho63 (by first | omega | (simp only [blk_some, hi1_some] at *; omega))
       replace hb2 := hb2.out ho63 (by first | omega | (simp only [blk_some, hi1_some] at *; omega))
       replace hb4 := hb4.out ho63 (by first | omega | (simp only [blk_some, hi1_some] at *; omega))
       refine wp_seq ?_
       refine rg ?_
       refine st (y_lss rfl rfl) ?_
       refine rg_end ?_
       refine n_then ?_
       refine wp_seq ?_
       refine cnd rfl (fun hc5 => ?_) (fun hc5 => ?_)
       ·
        try simp only [nm] at hc5
        have hri := run_ri (by omega) k s (by omega) hrun
        have htk := hri.tr k (Nat.le_refl _) (by omega)
        have hsl := setB_len (s.b.set k false)
        rw [List.length_set, hbl] at hsl
        have hsm : ∀ a ∈ setB (s.b.set k false), 0 ≤ a ∧ a < N.acts.length := fun a ha => by have := setB_mem a ha; rw [List.length_set] at this; omega
        refine wp_skip ?_
        refine n_then ?_
        refine wp_seq ?_
        refine wp_block ?_
        refine wp_seq ?_
        refine rg ?_
        refine st (mvI rfl) ?_
        refine st (asI rfl) ?_
        refine rg_end ?_
        refine n_then ?_
        refine wp_seq ?_
        refine rg ?_
        refine st (mvS rfl) ?_
        refine st (mvI rfl) ?_
        refine st (y_ix hb.sl sl81 rfl (hbl.symm) rfl (by omega) (by omega)) ?_
        refine sd0 (d_se (j := 0) (e' := false) hb sz4 rfl rfl rfl (by omega) (by omega) (Nat.le_of_ble_eq_true rfl) rfl ?_)
        intro w65 hs67 ho66 hb'
        have hrhb := hb.rng
        clear hb; have hb := hb'; clear hb'
        have hz68 := ho66.size
        replace hN := hN.out ho66 (by first | omega | (simp only [blk_some, hi1_some] at *; omega))
        replace hE := hE.step ho66 (by first | omega | (simp only [blk_some, hi1_some] at *; omega))
        replace hb2 := hb2.out ho66 (by first | omega | (simp only [blk_some, hi1_some] at *; omega))
        replace hb4 := hb4.out ho66 (by first | omega | (simp only [blk_some, hi1_some] at *; omega))
        replace hbs := hbs.out ho66 (by first | omega | (simp only [blk_some, hi1_some] at *; omega))
        replace hb13 := hb13.out ho66 (by first | omega | (simp only [blk_some, hi1_some] at *; omega))
        have hrnhW := hW.rng
        replace hW := hW.out ho66 (by first | omega | (simp only [blk_some, hi1_some] at *; omega))
        replace hR := hR.out ho66 (by first | omega | (simp only [blk_some, hi1_some] at *; omega))
        replace hlp1 := hlp1.step ho66 (by first | omega | (simp only [blk_some, hi1_some] at *; omega))
        refine rg_end ?_
        refine n_then ?_
        refine wp_seq ?_
        refine rgD 12 (fun w_ => Out bs (bs + 1) w65 w_) (fun i => Nat.beq i 3 || Nat.beq i 4 || Nat.beq i 5) mixed (by kernel_rfl) ?_
        intro w69 ho70 hs71
        refine ⟨ho70.wide (.inl (Nat.le_refl _)), ?_⟩
        have hx72 := ho70.wide (a' := bs) (b' := (bs + 1)) (.inl (Nat.le_refl _))
        replace hbs := hbs.ext ho70
        refine tn rfl (fun _ hG => mvP rfl) ?_
        refine tn rfl (fun _ hG => y_lbN (hb2.out hG (by first | omega | (simp only [blk_some, hi1_some] at *; omega))) agg26 rfl) ?_
        refine tn rfl (fun _ hG => mvS rfl) ?_
        refine tc rfl cl43 (con_membersN_ok _ _ (s.b.set k false) _ _ _ N.acts.length (by simp [hbl]) (Ow.sl (hb.out hx72 (by first | omega | (simp only [blk_some, hi1_some] at *; omega)))) (by simp; omega)) rfl ?_
        rintro v77 w73 ⟨ax, cx, rfl, hcx, hS, ho74⟩
        have hx78 := hx72.step ho74 (.inl (Nat.le_refl _))
        have hz79 := ho74.size
        replace hbs := hbs.ext ho74
        refine ⟨hx78, ?_⟩
        refine tc rfl cl36 (contradiction_subset_ok N A _ _ (setB (s.b.set k false)) _ _ _ _ _ (hN.out hx78 (by first | omega | (simp only [blk_some, hi1_some] at *; omega))) hS hok.ev (by omega) hsm) rfl ?_
        rintro v84 w80 ⟨A2, rfl, he2, ha2, ho81⟩
        have hM : NetIn _ _ _ (subN N (setB (s.b.set k false))) A2 := ⟨Ow.sl he2, Ow.sl ha2⟩
        clear he2 ha2
        have hx85 := hx78.step ho81 (.inl (Nat.le_refl _))
        have hz86 := ho81.size
        replace hS := hS.ext ho81
        replace hbs := hbs.ext ho81
        refine ⟨hx85, ?_⟩
        refine tc rfl cl42 (con_feasible_ok (subN N (setB (s.b.set k false))) A2 _ _ bs s.left s.used _ hM hbs (by omega) (by omega) (by omega)) rfl ?_
        rintro v91 w87 ⟨at1, ct1, rfl, hT1, hbs, ho88⟩
        have hx92 : Out bs (bs + 1) w65 w87 := hx85.step ho88 (by omega)
        have hz93 := ho88.size
        replace hM := hM.out ho88 (by first | omega | (simp only [blk_some, hi1_some] at *; omega))
        replace hS := hS.out ho88 (by first | omega | (simp only [blk_some, hi1_some] at *; omega))
        refine ⟨hx92, ?_⟩
        refine tn rfl (fun _ hG => mvT rfl) ?_
        refine tn rfl (fun _ hG => y_ext rfl rfl) ?_
        refine tn rfl (fun _ hG => y_ext rfl rfl) ?_
        refine tn rfl (fun _ hG => y_ext rfl rfl) ?_
        refine tn rfl (fun _ hG => asS rfl) ?_
        refine tn rfl (fun _ hG => asB rfl) ?_
        refine t_end ?_
        have hz94 := hx92.size
        replace hN := hN.out hx92 (by first | omega | (simp only [blk_some, hi1_some] at *; omega))
        replace hE := hE.step hx92 (by first | omega | (simp only [blk_some, hi1_some] at *; omega))
        replace hb2 := hb2.out hx92 (by first | omega | (simp only [blk_some, hi1_some] at *; omega))
        replace hb4 := hb4.out hx92 (by first | omega | (simp only [blk_some, hi1_some] at *; omega))
        have hrnhb := hb.rng
        replace hb := hb.out hx92 (by first | omega | (simp only [blk_some, hi1_some] at *; omega))
        replace hb13 := hb13.out hx92 (by first | omega | (simp only [blk_some, hi1_some] at *; omega))
        replace hW := hW.out hx92 (by first | omega | (simp only [blk_some, hi1_some] at *; omega))
        replace hR := hR.out hx92 (by first | omega | (simp only [blk_some, hi1_some] at *; omega))
        replace hlp1 := hlp1.step hx92 (by first | omega | (simp only [blk_some, hi1_some] at *; omega))
        refine st (asI rfl) ?_
        refine rg_end ?_
        refine n_then ?_
        refine wp_seq ?_
        refine wp_seq ?_
        refine rg ?_
        refine st (mvI rfl) ?_
        refine st (y_neq rfl rfl) ?_
        refine rg_end ?_
        refine n_then ?_
        refine cnd rfl (fun hc6 => ?_) (fun hc6 => ?_)
        ·
         try simp only [nm] at hc6
         have e1 := cfN hc0 hB hc2 hc3 (k := k + 1) (by omega) (run_none hrun hc6)
         refine wp_seq ?_
         refine rg ?_
         refine st (y_build (bld46_ _) rfl) ?_
         refine st (mvI rfl) ?_
         refine sd0 (d_stN hb4 rfl rfl sz46 rfl rfl ?_)
         intro w95 hs97 ho96 hb4'
         clear hb4; have hb4 := hb4'; clear hb4'
         have hz98 := ho96.size
         replace hN := hN.out ho96 (by first | omega | (simp only [blk_some, hi1_some] at *; omega))
         replace hE := hE.step ho96 (by first | omega | (simp only [blk_some, hi1_some] at *; omega))
         replace hb2 := hb2.out ho96 (by first | omega | (simp only [blk_some, hi1_some] at *; omega))
         replace hbs := hbs.out ho96 (by first | omega | (simp only [blk_some, hi1_some] at *; omega))
         replace hb := hb.out ho96 (by first | omega | (simp only [blk_some, hi1_some] at *; omega))
         replace hb13 := hb13.out ho96 (by first | omega | (simp only [blk_some, hi1_some] at *; omega))
         replace hW := hW.out ho96 (by first | omega | (simp only [blk_some, hi1_some] at *; omega))
         replace hR := hR.out ho96 (by first | omega | (simp only [blk_some, hi1_some] at *; omega))
         replace hS := hS.out ho96 (by first | omega | (simp only [blk_some, hi1_some] at *; omega))
         replace hM := hM.out ho96 (by first | omega | (simp only [blk_some, hi1_some] at *; omega))
         replace hT1 := hT1.out ho96 (by first | omega | (simp only [blk_some, hi1_some] at *; omega))
         refine st (asI rfl) ?_
         refine st (asI rfl) ?_
         refine rg_end ?_
         refine n_then ?_
         refine wp_ret ?_
         refine r_then (r_blk (r_then (r_then (r_blk (r_then (retC3 (v' := (.int .i64 _)) (v'' := (.int .i64 _)) Try.results21 hb4 agg46 rfl rfl rfl ?_))))))
         rw [sfE_ne hc6]
         exact ⟨none, 0, none, 0, [], by simp [cfS, cfU, e1], by simp [cfS, e1], by simp [cfS, e1]; exact nilI _ _ _, ⟨nilS, fun r hr => by cases hr⟩, by simp [cfW, e1], hE⟩
        ·
         try simp only [nm] at hc6
         have hfu := sfU_rng (subN N (setB (s.b.set k false))) s.left hs0
         refine wp_skip ?_
         refine n_then ?_
         refine wp_seq ?_
         refine rg ?_
         refine st (mvB rfl) ?_
         refine rg_end ?_
         refine n_then ?_
         refine cnd rfl (fun hc7 => ?_) (fun hc7 => ?_)
         ·
          try simp only [nm] at hc7
          have hrun1 := run_T hrun hc6 hc7
          have hbl1 := hbl
          have hrw1 : (rows ++ [(⟨at1, ct1, sfT (subN N (setB (s.b.set k false))) s.left⟩ : Rw)]).map Rw.l = s.wit ++ [sfT (subN N (setB (s.b.set k false))) s.left] := by simp [hrw]
          refine wp_seq ?_
          refine rg ?_
          refine st (mvS rfl) ?_
          refine st (mvI rfl) ?_
          refine st (y_ix hb.sl sl81 rfl (by simp; omega) rfl (by omega) (by simp; omega)) ?_
          refine sd0 (d_se (j := 0) (e' := true) hb sz4 rfl rfl rfl (by omega) (by simp; omega) (Nat.le_of_ble_eq_true rfl) rfl ?_)
          intro w99 hs101 ho100 hb'
          have hrhb := hb.rng
          clear hb; have hb := hb'; clear hb'
          have hz102 := ho100.size
          replace hN := hN.out ho100 (by first | omega | (simp only [blk_some, hi1_some] at *; omega))
          replace hE := hE.step ho100 (by first | omega | (simp only [blk_some, hi1_some] at *; omega))
          replace hb2 := hb2.out ho100 (by first | omega | (simp only [blk_some, hi1_some] at *; omega))
          replace hb4 := hb4.out ho100 (by first | omega | (simp only [blk_some, hi1_some] at *; omega))
          replace hbs := hbs.out ho100 (by first | omega | (simp only [blk_some, hi1_some] at *; omega))
          replace hb13 := hb13.out ho100 (by first | omega | (simp only [blk_some, hi1_some] at *; omega))
          replace hW := hW.out ho100 (by first | omega | (simp only [blk_some, hi1_some] at *; omega))
          replace hR := hR.out ho100 (by first | omega | (simp only [blk_some, hi1_some] at *; omega))
          replace hlp1 := hlp1.step ho100 (by first | omega | (simp only [blk_some, hi1_some] at *; omega))
          replace hS := hS.out ho100 (by first | omega | (simp only [blk_some, hi1_some] at *; omega))
          replace hM := hM.out ho100 (by first | omega | (simp only [blk_some, hi1_some] at *; omega))
          replace hT1 := hT1.out ho100 (by first | omega | (simp only [blk_some, hi1_some] at *; omega))
          have hbb : (s.b.set (k : Int).toNat false).set (k : Int).toNat true = s.b := setSelf htk (by omega)
          rw [hbb] at hb
          refine rg_end ?_
          refine n_then ?_
          refine rg ?_
          refine st (y_fld fld46_1 rfl) ?_
          refine st (y_lb hb13 na44 rfl rfl) ?_
          refine st (mvS rfl) ?_
          refine sd (d_bs (bsl44_1 _ _ _ _) rfl ?_)
          intro bl106 w103 hbbl106 hs105 ho104 hbl106
          have hz107 := ho104.size
          replace hN := hN.ext ho104
          replace hE := hE.step ho104 (.inl (Nat.le_refl _))
          replace hb2 := hb2.ext ho104
          replace hb4 := hb4.ext ho104
          replace hbs := hbs.ext ho104
          replace hb := hb.ext ho104
          replace hb13 := hb13.ext ho104
          replace hW := hW.ext ho104
          replace hR := hR.ext ho104
          replace hlp1 := hlp1.step ho104 (.inl (Nat.le_refl _))
          replace hS := hS.ext ho104
          replace hM := hM.ext ho104
          replace hT1 := hT1.ext ho104
          have hT0 := hT1
          have hR0 := hR.wide (hi' := w103.heap.size) (by omega)
          have hWr := hW.rng
          have hrhW := hW.rng
          refine sd (d_appA (xs := [(⟨at1, ct1, sfT (subN N (setB (s.b.set k false))) s.left⟩ : Rw)]) hW sl44 infoz22 (by decide) rfl rfl rfl rfl (hbl106) (fun _ => rfl) (by simp; unfold maxLen; omega) (by simp; omega) (by omega) (by omega) ?_)
          intro aw1 cw1 w108 hat hoA hW'
          have hs109 := hoA.size
          clear hW; have hW := hW'; clear hW'
          have hz112 := hoA.size
          replace hN := hN.out hoA (by first | omega | (simp only [blk_some, hi1_some] at *; omega))
          replace hE := hE.step hoA (by first | omega | (simp only [blk_some, hi1_some] at *; omega))
          replace hb2 := hb2.out hoA (by first | omega | (simp only [blk_some, hi1_some] at *; omega))
          replace hb4 := hb4.out hoA (by first | omega | (simp only [blk_some, hi1_some] at *; omega))
          replace hbs := hbs.out hoA (by first | omega | (simp only [blk_some, hi1_some] at *; omega))
          replace hb := hb.out hoA (by first | omega | (simp only [blk_some, hi1_some] at *; omega))
          replace hb13 := hb13.out hoA (by first | omega | (simp only [blk_some, hi1_some] at *; omega))
          replace hlp1 := hlp1.step hoA (by first | omega | (simp only [blk_some, hi1_some] at *; omega))
          replace hS := hS.out hoA (by first | omega | (simp only [blk_some, hi1_some] at *; omega))
          replace hM := hM.out hoA (by first | omega | (simp only [blk_some, hi1_some] at *; omega))
          replace hT1 := hT1.out hoA (by first | omega | (simp only [blk_some, hi1_some] at *; omega))
          have hR1 := hR0.app (r := ⟨at1, ct1, sfT (subN N (setB (s.b.set k false))) s.left⟩) hT0 (by omega) (by omega) (by omega) hoA (Nat.le_refl _) hat
          refine st (y_fld fld46_1 rfl) ?_
          refine sd0 (d_st hb13 sz44 rfl rfl rfl (Nat.le_of_ble_eq_true rfl) ?_)
          intro w113 hs115 ho114 hb13'
          clear hb13; have hb13 := hb13'; clear hb13'
          have hz116 := ho114.size
          replace hN := hN.out ho114 (by first | omega | (simp only [blk_some, hi1_some] at *; omega))
          replace hE := hE.step ho114 (by first | omega | (simp only [blk_some, hi1_some] at *; omega))
          replace hb2 := hb2.out ho114 (by first | omega | (simp only [blk_some, hi1_some] at *; omega))
          replace hb4 := hb4.out ho114 (by first | omega | (simp only [blk_some, hi1_some] at *; omega))
          replace hbs := hbs.out ho114 (by first | omega | (simp only [blk_some, hi1_some] at *; omega))
          replace hb := hb.out ho114 (by first | omega | (simp only [blk_some, hi1_some] at *; omega))
          replace hlp1 := hlp1.step ho114 (by first | omega | (simp only [blk_some, hi1_some] at *; omega))
          replace hS := hS.out ho114 (by first | omega | (simp only [blk_some, hi1_some] at *; omega))
          replace hM := hM.out ho114 (by first | omega | (simp only [blk_some, hi1_some] at *; omega))
          replace hT1 := hT1.out ho114 (by first | omega | (simp only [blk_some, hi1_some] at *; omega))
          have hrnhW := hW.rng
          replace hW := hW.out ho114 (by first | omega | (simp only [blk_some, hi1_some] at *; omega))
          replace hR1 := hR1.out ho114 (by first | omega | (simp only [blk_some, hi1_some] at *; omega))
          refine rg_end ?_
          refine n_blk ?_
          refine n_then ?_
          refine rg ?_
          refine st (y_add rfl rfl (by omega)) ?_
          refine st (mvI rfl) ?_
          refine rg_end ?_
          exact n_then ⟨(k + 1, _, _, _, _), _, rfl, same_lk rfl (same_h0), ⟨rfl, trivial⟩, ⟨hlp1, by omega, hrun1, hbl1, hrw1, by first | omega | (simp; omega), by (dsimp only; omega), by (dsimp only; omega), by (dsimp only; omega), hbs, hb, hb13, hW.wide (by omega), hR1.wide (by omega)⟩, by first | omega | (dsimp only; omega)⟩
         ·
          try simp only [nm] at hc7
          have hrun1 := run_F hrun hc6 hc7
          have hbl1 : (s.b.set k false).length = N.acts.length := by simp [hbl]
          have hrw1 := hrw
          have hR1 := hR
          refine wp_skip ?_
          refine n_blk ?_
          refine n_then ?_
          refine rg ?_
          refine st (y_add rfl rfl (by omega)) ?_
          refine st (mvI rfl) ?_
          refine rg_end ?_
          exact n_then ⟨(k + 1, _, _, _, _), _, rfl, same_lk rfl (same_h0), ⟨rfl, trivial⟩, ⟨hlp1, by omega, hrun1, hbl1, hrw1, by first | omega | (simp; omega), by (dsimp only; omega), by (dsimp only; omega), by (dsimp only; omega), hbs, hb, hb13, hW.wide (by omega), hR1.wide (by omega)⟩, by first | omega | (dsimp only; omega)⟩
       ·
        try simp only [nm] at hc5
        have hkn : k = N.acts.length := by omega
        subst hkn
        obtain ⟨f0, f1, f2, f3⟩ := cf0 hc0 hB hc2 hc3 hrun
        refine wp_exit ?_
        refine e_then (e_then (e_blk (?_)))
        refine n_then ?_
        refine wp_seq ?_
        refine rg ?_
        refine st (mvS rfl) ?_
        refine sc cl43 (con_membersN_ok _ _ s.b _ _ _ N.acts.length hbl (Ow.sl hb) (by omega)) rfl ?_
        rintro v121 w117 ⟨ax, cx, rfl, hcx, hS, ho118⟩
        have hz122 := ho118.size
        replace hN := hN.ext ho118
        replace hE := hE.step ho118 (.inl (Nat.le_refl _))
        replace hb2 := hb2.ext ho118
        replace hb4 := hb4.ext ho118
        replace hbs := hbs.ext ho118
        replace hb := hb.ext ho118
        replace hb13 := hb13.ext ho118
        replace hW := hW.ext ho118
        replace hR := hR.ext ho118
        refine st (y_fld fld46_0 rfl) ?_
        refine sd0 (d_st hb13 sz22 rfl rfl rfl (Nat.le_of_ble_eq_true rfl) ?_)
        intro w123 hs125 ho124 hb13'
        clear hb13; have hb13 := hb13'; clear hb13'
        have hz126 := ho124.size
        replace hN := hN.out ho124 (by first | omega | (simp only [blk_some, hi1_some] at *; omega))
        replace hE := hE.step ho124 (by first | omega | (simp only [blk_some, hi1_some] at *; omega))
        replace hb2 := hb2.out ho124 (by first | omega | (simp only [blk_some, hi1_some] at *; omega))
        replace hb4 := hb4.out ho124 (by first | omega | (simp only [blk_some, hi1_some] at *; omega))
        replace hbs := hbs.out ho124 (by first | omega | (simp only [blk_some, hi1_some] at *; omega))
        have hrnhb := hb.rng
        replace hb := hb.out ho124 (by first | omega | (simp only [blk_some, hi1_some] at *; omega))
        have hrnhW := hW.rng
        replace hW := hW.out ho124 (by first | omega | (simp only [blk_some, hi1_some] at *; omega))
        replace hR := hR.out ho124 (by first | omega | (simp only [blk_some, hi1_some] at *; omega))
        replace hS := hS.out ho124 (by first | omega | (simp only [blk_some, hi1_some] at *; omega))
        refine rg_end ?_
        refine n_then ?_
        refine wp_seq ?_
        refine rgD 6 (fun w_ => Out b4 (b4 + 1) w123 w_) (fun i => Nat.beq i 5) mixed (by kernel_rfl) ?_
        intro w127 ho128 hs129
        refine ⟨ho128.wide (.inl (Nat.le_refl _)), ?_⟩
        have hx130 := ho128.wide (a' := b4) (b' := (b4 + 1)) (.inl (Nat.le_refl _))
        replace hb4 := hb4.ext ho128
        refine tn rfl (fun _ hG => y_lbN (hb13.out hG (by first | omega | (simp only [blk_some, hi1_some] at *; omega))) agg46 rfl) ?_
        refine tn rfl (fun _ hG => mvP rfl) ?_
        refine tn rfl (fun _ hG => y_nil rfl) ?_
        refine tn rfl (fun _ hG => y_fld fld78_1 rfl) ?_
        refine tn rfl (fun _ hG => y_lb (hbs.out hG (by first | omega | (simp only [blk_some, hi1_some] at *; omega))) na3 rfl rfl) ?_
        refine td0 rfl (d_stN hb4 rfl rfl sz46 rfl rfl ?_)
        intro w131 hs133 ho132 hb4'
        clear hb4; have hb4 := hb4'; clear hb4'
        have hx134 : Out b4 (b4 + 1) w123 w131 := hx130.step ho132 (by first | omega | (simp only [blk_some, hi1_some] at *; omega))
        have hz135 := ho132.size
        refine ⟨hx134, ?_⟩
        refine t_end ?_
        have hz136 := hx134.size
        replace hN := hN.out hx134 (by first | omega | (simp only [blk_some, hi1_some] at *; omega))
        replace hE := hE.step hx134 (by first | omega | (simp only [blk_some, hi1_some] at *; omega))
        replace hb2 := hb2.out hx134 (by first | omega | (simp only [blk_some, hi1_some] at *; omega))
        replace hbs := hbs.out hx134 (by first | omega | (simp only [blk_some, hi1_some] at *; omega))
        replace hb := hb.out hx134 (by first | omega | (simp only [blk_some, hi1_some] at *; omega))
        replace hb13 := hb13.out hx134 (by first | omega | (simp only [blk_some, hi1_some] at *; omega))
        replace hW := hW.out hx134 (by first | omega | (simp only [blk_some, hi1_some] at *; omega))
        replace hR := hR.out hx134 (by first | omega | (simp only [blk_some, hi1_some] at *; omega))
        replace hS := hS.out hx134 (by first | omega | (simp only [blk_some, hi1_some] at *; omega))
        refine st (asI rfl) ?_
        refine st (asI rfl) ?_
        refine rg_end ?_
        refine n_then ?_
        refine wp_ret ?_
        refine retC3 (v' := (.int .i64 _)) (v'' := (.int .i64 _)) Try.results21 hb4 agg46 rfl rfl rfl ?_
        exact ⟨ax, cx, aw, cw, rows, by rw [f0, f1, f3]; rfl, by rw [f1]; exact hcx, by rw [f1]; exact Sl.wide hS (by omega) (by omega), hR.wit (by omega) (by omega) (Sl.wide (Ow.sl hW) (by omega) (by omega)), by rw [f2]; exact hrw, hE⟩
end Go.Proofs.Ytclligkngjhihaa
