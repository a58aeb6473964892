/-
  Walks of the functions, printed by a program out of the code and the loops' relations.
-/
import Derived.Test.YteicgnmggkhlbaaWkD
import Derived.Test.YteicgnmggkhlbaaProg
import Derived.KernelRfl
import Derived.Test.YteicgnmggkhlbaaP15
namespace Go.Proofs.Yteicgnmggkhlbaa
open Go.Wk Go.RowKit
set_option linter.unusedVariables false
set_option linter.unusedSimpArgs false
theorem cl13 : Callable Try.prog 13 := ⟨Try.call13⟩
theorem cl14 : Callable Try.prog 14 := ⟨Try.call14⟩
theorem cl16 : Callable Try.prog 16 := ⟨Try.call16⟩
theorem cl20 : Callable Try.prog 20 := ⟨Try.call20⟩
theorem cl23 : Callable Try.prog 23 := ⟨Try.call23⟩
theorem cl24 : Callable Try.prog 24 := ⟨Try.call24⟩
theorem cl25 : Callable Try.prog 25 := ⟨Try.call25⟩
theorem cl30 : Callable Try.prog 30 := ⟨Try.call30⟩
theorem cl32 : Callable Try.prog 32 := ⟨Try.call32⟩

theorem sm_len {rows : List Pw} (h : SmP rows) : ∀ r ∈ rows, (r.st.length : Int) ≤ 9223372036854775807 ∧ ∀ s ∈ r.st, (s.pts.length : Int) ≤ 9223372036854775807 := fun r hr => by
  obtain ⟨h1, h2, h3⟩ := h.row r hr
  exact ⟨by omega, fun s hs => by have := (h3.1 s hs).p1; omega⟩
theorem ck_ex {rows : List Pw} {at_ : List Int} : ∃ e, CkR rows at_ e := by
  by_cases h1 : VaP rows ∧ GoP rows at_
  · by_cases h2 : Hel rows at_
    · exact ⟨17, fun h => absurd h1 h, fun _ _ _ => rfl, fun _ _ h => absurd h2 h⟩
    · exact ⟨0, fun h => absurd h1 h, fun _ _ h => absurd h h2, fun _ _ _ => rfl⟩
  · exact ⟨1, fun _ => rfl, fun a b => absurd ⟨a, b⟩ h1, fun a b => absurd ⟨a, b⟩ h1⟩
theorem mv_eq {rows : List Pw} {at_ l m : List Int} (h : ∀ e, CkR rows at_ e → (e ≠ 0 → l = []) ∧ (e = 0 → l = movs rows at_ rows.length)) (k : ∀ e, CkR rows at_ e → (e ≠ 0 → m = []) ∧ (e = 0 → m = movs rows at_ rows.length)) : l = m := by
  obtain ⟨e, he⟩ := ck_ex (rows := rows) (at_ := at_)
  by_cases z : e = 0
  · rw [(h e he).2 z, (k e he).2 z]
  · rw [(h e he).1 z, (k e he).1 z]
theorem kn_eq {rows : List Pw} {at_ l m : List Int} (h : ∀ e, CkR rows at_ e → (e ≠ 0 → l = []) ∧ (e = 0 → KnR rows at_ l)) (k : ∀ e, CkR rows at_ e → (e ≠ 0 → m = []) ∧ (e = 0 → KnR rows at_ m)) : l = m := by
  obtain ⟨e, he⟩ := ck_ex (rows := rows) (at_ := at_)
  by_cases z : e = 0
  · exact ((h e he).2 z).uniq ((k e he).2 z)
  · rw [(h e he).1 z, (k e he).1 z]
theorem mv_len {rows : List Pw} {at_ l : List Int} (h : ∀ e, CkR rows at_ e → (e ≠ 0 → l = []) ∧ (e = 0 → l = movs rows at_ rows.length)) : l.length ≤ rows.length := by
  obtain ⟨e, he⟩ := ck_ex (rows := rows) (at_ := at_)
  by_cases z : e = 0
  · rw [(h e he).2 z]; exact movs_len
  · rw [(h e he).1 z]; simp
theorem kn_len {rows : List Pw} {at_ l : List Int} (h : ∀ e, CkR rows at_ e → (e ≠ 0 → l = []) ∧ (e = 0 → KnR rows at_ l)) : l.length ≤ rows.length := by
  obtain ⟨e, he⟩ := ck_ex (rows := rows) (at_ := at_)
  by_cases z : e = 0
  · rcases (h e he).2 z with ⟨t, j, ht, hc, _, rfl⟩ | ⟨_, rfl⟩
    · rw [itL_len]; exact hc.le ht
    · simp
  · rw [(h e he).1 z]; simp
/-- The length of what Search hands back. -/
theorem exL_plan {rows : List Pw} {f : List (List Int) → List Int → Ex} {at_ : List Int} {m : Nat} (hf : ∀ t S, t < rows.length → movB rows at_ (t : Int) = true → (f S (nxA at_ t)).plan.length ≤ m) : ∀ (j t : Nat) (S : List (List Int)), t + j ≤ rows.length → (exL rows f at_ j t S).plan.length ≤ m + 1
  | 0, t, S, _ => Nat.zero_le _
  | j + 1, t, S, h => by
    unfold exL
    split
    · rename_i c
      split
      · exact exL_plan hf j (t + 1) _ (by omega)
      · have := hf t S (by omega) c.1
        simp; omega
    · exact exL_plan hf j (t + 1) _ (by omega)
theorem exm_plan {rows : List Pw} {B : Int} : ∀ (m : Nat) (S : List (List Int)) (at_ : List Int), (exm rows B m S at_).plan.length ≤ m
  | 0, S, at_ => by
    unfold exm exB
    split
    · exact Nat.zero_le _
    · split
      · exact Nat.zero_le _
      · have key : ∀ (j t : Nat) (S : List (List Int)), (exL rows (fun S _ => ⟨19, S, []⟩) at_ j t S).plan = [] := fun j => by
          induction j with
          | zero => intro t S; rfl
          | succ j ih =>
            intro t S
            unfold exL
            split
            · rw [if_pos rfl]; exact ih _ _
            · exact ih _ _
        rw [key]; exact Nat.zero_le _
  | m + 1, S, at_ => by
    unfold exm exB
    split
    · exact Nat.zero_le _
    · split
      · exact Nat.zero_le _
      · exact exL_plan (fun t S _ _ => exm_plan m S (nxA at_ t)) rows.length 0 _ (by omega)
theorem sr_len {rows : List Pw} {at_ : List Int} {B e0 : Int} : (srF rows at_ B e0).1.length ≤ remT rows at_ rows.length := by
  unfold srF
  split
  · exact Nat.zero_le _
  · split
    · exact Nat.zero_le _
    · unfold srR
      split
      · exact exm_plan _ _ _
      · split <;> exact Nat.zero_le _
theorem sr_len2 {rows : List Pw} {at_ l : List Int} {B e0 n e : Int} (hva : VaP rows) (hg : GoP rows at_) (h : (l, n, e) = srF rows at_ B e0) : l.length ≤ 650 := by
  have h1 : l = (srF rows at_ B e0).1 := congrArg Prod.fst h
  have h2 := rem_le hva hg rows.length (Nat.le_refl _)
  have h3 := hva.len
  have h4 := sr_len (rows := rows) (at_ := at_) (B := B) (e0 := e0)
  rw [h1]; omega

theorem ex_kn (a b : Option Addr) : KnR (exR a b) [0, 0] [0, 1] := by
  refine .inl ⟨0, 2, by simp [exR], ⟨by omega, by kernel_rfl, fun i h0 h1 => ?_⟩, fun s hs => by omega, by kernel_rfl⟩
  have : i = 1 := by omega
  subst this
  rw [show itG (gS (exR a b) [0, 0]) ((0 : Nat) : Int) 1 = 1 by kernel_rfl]; decide
theorem ex_mv (a b : Option Addr) : movs (exR a b) [0, 0] (exR a b).length = [] := by kernel_rfl

set_option maxHeartbeats 1000000 in
set_option maxRecDepth 100000 in
theorem law36_DeadlockExample_ok (w : World) : Cal Try.prog 10 [] w (fun v w' => v = .bool true ∧ Ext w w') := by
  have hE : Out 0 0 w w := Out.refl _ _ w
  refine enter Try.func10 rfl Try.ntmps10 rfl ?_
  refine wp_seq ?_
  refine rg ?_
  refine st (asB rfl) ?_
  refine rg_end ?_
  refine n_then ?_
  refine wp_seq ?_
  refine rg ?_
  refine sc cl27 (law36_example_ok _) rfl ?_
  rintro v5 w1 ⟨ea1, eb1, ep1, ec1, rfl, hP1, ho2⟩
  have hz6 := ho2.size
  replace hE := hE.step ho2 (.inl (Nat.le_refl _))
  refine sd (d_bs (bsl22_2 _ _ _) rfl ?_)
  intro bl10 w7 hbbl10 hs9 ho8 hbl10
  have hA1 : Sl encI 1 bl10 (bl10 + 1) w7 (some ⟨bl10, 0, none⟩) ([0, 0] : List Int) := Blk.sl (l := ([0, 0] : List Int)) hbl10 (fun _ => rfl) (Nat.le_refl _) (Nat.lt_succ_self _)
  have hz11 := ho8.size
  replace hE := hE.step ho8 (.inl (Nat.le_refl _))
  replace hP1 := hP1.ext ho8
  refine sc cl17 (dead_Search_ok (exR ea1 eb1) _ _ _ _ [0, 0] _ _ _ _ 50 _ hP1 (by simp [exR]) hA1 (ex_len _ _) (by simp)) rfl ?_
  rintro v16 w12 ⟨ads, cs, ls, ns, es, e0s, rfl, hcks, hsrs, hOs, ho13⟩
  have hz := ex_ck hcks (by omega) (by omega) (ex_n2 _ _)
  rw [hz, ex_s3] at hsrs
  have hn5 : ns = 1 := congrArg (fun q => q.2.1) hsrs
  have he5 : es = 19 := congrArg (fun q => q.2.2) hsrs
  have hz17 := ho13.size
  replace hE := hE.step ho13 (.inl (Nat.le_refl _))
  replace hP1 := hP1.ext ho13
  replace hA1 := hA1.ext ho13
  refine st (mvT rfl) ?_
  refine st (y_ext rfl rfl) ?_
  refine st (y_ext rfl rfl) ?_
  refine st (y_ext rfl rfl) ?_
  refine st (asS rfl) ?_
  refine st (asI rfl) ?_
  refine st (asI rfl) ?_
  refine rg_end ?_
  refine n_then ?_
  refine wp_seq ?_
  refine rg ?_
  refine sc cl16 (law36_awake_ok _) rfl ?_
  rintro v22 w18 ⟨rfl, ho19⟩
  have hz23 := ho19.size
  replace hE := hE.step ho19 (.inl (Nat.le_refl _))
  replace hP1 := hP1.ext ho19
  replace hA1 := hA1.ext ho19
  replace hOs := hOs.ext ho19
  refine st (mvB rfl) ?_
  refine stg rfl rfl rfl (mvI rfl) ?_
  refine stg rfl rfl rfl (y_eql rfl rfl) ?_
  refine st (y_pickT rfl rfl (v := .bool _) rfl) ?_
  refine st (mvB rfl) ?_
  refine gspL 16 rfl (fun hg24 => ?_) (fun hg24 => ?_)
  ·
    have hg24n := hg24; try simp only [decide_eq_true_eq, decide_eq_false_iff_not, Bool.not_eq_true', Bool.not_eq_false', Bool.and_eq_true, Bool.or_eq_true, Bool.or_eq_false_iff, Bool.cond_true_right, Bool.cond_false_right, Bool.cond_true_left, Bool.cond_false_left, ne_eq, Decidable.not_not, bne_iff_ne, beq_iff_eq, beq_eq_false_iff_ne, Bool.not_true, Bool.not_false] at hg24n
    refine stg rfl rfl hg24 (mvI rfl) ?_
    refine stg rfl rfl hg24 (y_eql rfl rfl) ?_
    refine st (y_pickT rfl hg24 (v := .bool _) rfl) ?_
    refine st (mvB rfl) ?_
    refine gspL 20 rfl (fun hg25 => ?_) (fun hg25 => ?_)
    ·
      have hg25n := hg25; try simp only [decide_eq_true_eq, decide_eq_false_iff_not, Bool.not_eq_true', Bool.not_eq_false', Bool.and_eq_true, Bool.or_eq_true, Bool.or_eq_false_iff, Bool.cond_true_right, Bool.cond_false_right, Bool.cond_true_left, Bool.cond_false_left, ne_eq, Decidable.not_not, bne_iff_ne, beq_iff_eq, beq_eq_false_iff_ne, Bool.not_true, Bool.not_false] at hg25n
      refine scg rfl rfl hg25 cl27 (law36_example_ok _) rfl ?_
      rintro v30 w26 ⟨ea2, eb2, ep2, ec2, rfl, hP2, ho27⟩
      have hz31 := ho27.size
      replace hE := hE.step ho27 (.inl (Nat.le_refl _))
      replace hP1 := hP1.ext ho27
      replace hA1 := hA1.ext ho27
      replace hOs := hOs.ext ho27
      refine sdg rfl rfl hg25 (d_bs (bsl22_2 _ _ _) rfl ?_)
      intro bl35 w32 hbbl35 hs34 ho33 hbl35
      have hA2 : Sl encI 1 bl35 (bl35 + 1) w32 (some ⟨bl35, 0, none⟩) ([0, 0] : List Int) := Blk.sl (l := ([0, 0] : List Int)) hbl35 (fun _ => rfl) (Nat.le_refl _) (Nat.lt_succ_self _)
      have hz36 := ho33.size
      replace hE := hE.step ho33 (.inl (Nat.le_refl _))
      replace hP1 := hP1.ext ho33
      replace hA1 := hA1.ext ho33
      replace hOs := hOs.ext ho33
      replace hP2 := hP2.ext ho33
      refine scg rfl rfl hg25 cl25 (dead_Knot_ok (exR ea2 eb2) _ _ _ _ [0, 0] _ _ _ _ _ hP2 (by simp [exR]) hA2 (ex_len _ _) (by simp)) rfl ?_
      rintro v41 w37 ⟨adk, ck, lk_, rfl, hOk, hkn, ho38⟩
      have hlk : lk_ = [0, 1] := by
        obtain ⟨e, he⟩ := ck_ex (rows := exR ea2 eb2) (at_ := [0, 0])
        exact ((hkn e he).2 (ex_ck he (by omega) (by omega) (ex_n2 _ _))).uniq (ex_kn _ _)
      have hz42 := ho38.size
      replace hE := hE.step ho38 (.inl (Nat.le_refl _))
      replace hP1 := hP1.ext ho38
      replace hA1 := hA1.ext ho38
      replace hOs := hOs.ext ho38
      replace hP2 := hP2.ext ho38
      replace hA2 := hA2.ext ho38
      refine sdg rfl rfl hg25 (d_bs (bsl22_2 _ _ _) rfl ?_)
      intro bl46 w43 hbbl46 hs45 ho44 hbl46
      have hA3 : Sl encI 1 bl46 (bl46 + 1) w43 (some ⟨bl46, 0, none⟩) ([0, 1] : List Int) := Blk.sl (l := ([0, 1] : List Int)) hbl46 (fun _ => rfl) (Nat.le_refl _) (Nat.lt_succ_self _)
      have hz47 := ho44.size
      replace hE := hE.step ho44 (.inl (Nat.le_refl _))
      replace hP1 := hP1.ext ho44
      replace hA1 := hA1.ext ho44
      replace hOs := hOs.ext ho44
      replace hP2 := hP2.ext ho44
      replace hA2 := hA2.ext ho44
      replace hOk := hOk.ext ho44
      refine scg rfl rfl hg25 cl28 (keep_Same_int_ok lk_ [0, 1] _ _ _ _ _ _ _ _ _ (Ow.sl hOk) hA3 (by rw [hlk]; simp)) rfl ?_
      rintro v52 w48 ⟨rfl, ho49⟩
      have hz53 := ho49.size
      replace hE := hE.step ho49 (.inl (Nat.le_refl _))
      replace hP1 := hP1.ext ho49
      replace hA1 := hA1.ext ho49
      replace hOs := hOs.ext ho49
      replace hP2 := hP2.ext ho49
      replace hA2 := hA2.ext ho49
      replace hOk := hOk.ext ho49
      replace hA3 := hA3.ext ho49
      refine st (y_pickT rfl hg25 (v := .bool _) rfl) ?_
      refine st (mvB rfl) ?_
      refine gspL 27 rfl (fun hg54 => ?_) (fun hg54 => ?_)
      ·
        have hg54n := hg54; try simp only [decide_eq_true_eq, decide_eq_false_iff_not, Bool.not_eq_true', Bool.not_eq_false', Bool.and_eq_true, Bool.or_eq_true, Bool.or_eq_false_iff, Bool.cond_true_right, Bool.cond_false_right, Bool.cond_true_left, Bool.cond_false_left, ne_eq, Decidable.not_not, bne_iff_ne, beq_iff_eq, beq_eq_false_iff_ne, Bool.not_true, Bool.not_false] at hg54n
        refine scg rfl rfl hg54 cl27 (law36_example_ok _) rfl ?_
        rintro v59 w55 ⟨ea3, eb3, ep3, ec3, rfl, hP3, ho56⟩
        have hz60 := ho56.size
        replace hE := hE.step ho56 (.inl (Nat.le_refl _))
        replace hP1 := hP1.ext ho56
        replace hA1 := hA1.ext ho56
        replace hOs := hOs.ext ho56
        replace hP2 := hP2.ext ho56
        replace hA2 := hA2.ext ho56
        replace hOk := hOk.ext ho56
        replace hA3 := hA3.ext ho56
        refine sdg rfl rfl hg54 (d_bs (bsl22_2 _ _ _) rfl ?_)
        intro bl64 w61 hbbl64 hs63 ho62 hbl64
        have hA4 : Sl encI 1 bl64 (bl64 + 1) w61 (some ⟨bl64, 0, none⟩) ([0, 0] : List Int) := Blk.sl (l := ([0, 0] : List Int)) hbl64 (fun _ => rfl) (Nat.le_refl _) (Nat.lt_succ_self _)
        have hz65 := ho62.size
        replace hE := hE.step ho62 (.inl (Nat.le_refl _))
        replace hP1 := hP1.ext ho62
        replace hA1 := hA1.ext ho62
        replace hOs := hOs.ext ho62
        replace hP2 := hP2.ext ho62
        replace hA2 := hA2.ext ho62
        replace hOk := hOk.ext ho62
        replace hA3 := hA3.ext ho62
        replace hP3 := hP3.ext ho62
        refine scg rfl rfl hg54 cl23 (dead_Moves_ok (exR ea3 eb3) _ _ _ _ [0, 0] _ _ _ _ _ hP3 (by simp [exR]) hA4 (ex_len _ _) (by simp)) rfl ?_
        rintro v70 w66 ⟨adm, cm, lm, rfl, hOm, hmvm, ho67⟩
        have hlm : lm = [] := by
          obtain ⟨e, he⟩ := ck_ex (rows := exR ea3 eb3) (at_ := [0, 0])
          rw [(hmvm e he).2 (ex_ck he (by omega) (by omega) (ex_n2 _ _)), ex_mv]
        have hz71 := ho67.size
        replace hE := hE.step ho67 (.inl (Nat.le_refl _))
        replace hP1 := hP1.ext ho67
        replace hA1 := hA1.ext ho67
        replace hOs := hOs.ext ho67
        replace hP2 := hP2.ext ho67
        replace hA2 := hA2.ext ho67
        replace hOk := hOk.ext ho67
        replace hA3 := hA3.ext ho67
        replace hP3 := hP3.ext ho67
        replace hA4 := hA4.ext ho67
        refine stg rfl rfl hg54 (y_len Try.underlying22 rfl) ?_
        refine stg rfl rfl hg54 (y_eql rfl rfl) ?_
        refine st (y_pickT rfl hg54 (v := .bool _) rfl) ?_
        refine st (asB rfl) ?_
        refine rg_end ?_
        refine n_then ?_
        refine wp_ret ?_
        refine ret1 (v := (.bool _)) Try.results10 rfl ?_
        exact ⟨vb (by simp [hlm]), hE⟩
      ·
        have hg54n := hg54; try simp only [decide_eq_true_eq, decide_eq_false_iff_not, Bool.not_eq_true', Bool.not_eq_false', Bool.and_eq_true, Bool.or_eq_true, Bool.or_eq_false_iff, Bool.cond_true_right, Bool.cond_false_right, Bool.cond_true_left, Bool.cond_false_left, ne_eq, Decidable.not_not, bne_iff_ne, beq_iff_eq, beq_eq_false_iff_ne, Bool.not_true, Bool.not_false] at hg54n
        exact absurd (decide_eq_true (hlk)) (by rw [hg54]; decide)
    ·
      have hg25n := hg25; try simp only [decide_eq_true_eq, decide_eq_false_iff_not, Bool.not_eq_true', Bool.not_eq_false', Bool.and_eq_true, Bool.or_eq_true, Bool.or_eq_false_iff, Bool.cond_true_right, Bool.cond_false_right, Bool.cond_true_left, Bool.cond_false_left, ne_eq, Decidable.not_not, bne_iff_ne, beq_iff_eq, beq_eq_false_iff_ne, Bool.not_true, Bool.not_false] at hg25n
      exact absurd (decide_eq_true (he5)) (by rw [hg25]; decide)
  ·
    have hg24n := hg24; try simp only [decide_eq_true_eq, decide_eq_false_iff_not, Bool.not_eq_true', Bool.not_eq_false', Bool.and_eq_true, Bool.or_eq_true, Bool.or_eq_false_iff, Bool.cond_true_right, Bool.cond_false_right, Bool.cond_true_left, Bool.cond_false_left, ne_eq, Decidable.not_not, bne_iff_ne, beq_iff_eq, beq_eq_false_iff_ne, Bool.not_true, Bool.not_false] at hg24n
    exact absurd (decide_eq_true (hn5)) (by rw [hg24]; decide)

set_option maxHeartbeats 4000000 in
set_option maxRecDepth 100000 in
theorem law36_DeadlockMade_ok (a0 : Option Addr) (c0 : Nat) (l0 : List Int) (a1 : Option Addr) (c1 : Nat) (l1 : List Int) (x2 x3 : Int) (w : World) (hL0 : Ints 0 w.heap.size w a0 l0) (hl0 : (l0.length : Int) ≤ 9223372036854775807) (hL1 : Ints 0 w.heap.size w a1 l1) (hl1 : (l1.length : Int) ≤ 9223372036854775807)  : Cal Try.prog 12 [.slice a0 l0.length c0, .slice a1 l1.length c1, .int .i64 x2, .int .i64 x3] w (fun v w' => v = .bool true ∧ Ext w w') := by
  have hE : Out 0 0 w w := Out.refl _ _ w
  refine enter Try.func12 rfl Try.ntmps12 rfl ?_
  refine wp_seq ?_
  refine rg ?_
  refine st (asB rfl) ?_
  refine rg_end ?_
  refine n_then ?_
  refine wp_seq ?_
  refine rg ?_
  refine st (mvS rfl) ?_
  refine sc cl13 (keep2_Paths_ok _ _ _ _ _ _ hL0 hl0) rfl ?_
  rintro v5 w1 ⟨rows, ap, cp, rfl, hsm, hcp, hP, ho2⟩
  have hva := hsm.va
  have hn3 := hsm.n3
  have hn1 := hsm.n1
  have hln := sm_len hsm
  have hz6 := ho2.size
  replace hL0 := hL0.ext ho2
  replace hL1 := hL1.ext ho2
  replace hE := hE.step ho2 (.inl (Nat.le_refl _))
  refine st (asS rfl) ?_
  refine rg_end ?_
  refine n_then ?_
  refine wp_seq ?_
  refine rg ?_
  refine st (mvS rfl) ?_
  refine st (mvS rfl) ?_
  refine sc cl14 (keep2_At_ok rows _ _ _ _ _ _ _ _ _ _ hP (by omega) hL1 hl1 hsm) rfl ?_
  rintro v11 w7 ⟨ax, cx, at_, rfl, hg, hcx, hx, ho8⟩
  have hl := hg.len
  have hz12 := ho8.size
  replace hL0 := hL0.ext ho8
  replace hL1 := hL1.ext ho8
  replace hE := hE.step ho8 (.inl (Nat.le_refl _))
  replace hP := hP.ext ho8
  refine st (asS rfl) ?_
  refine rg_end ?_
  refine n_then ?_
  refine wp_seq ?_
  refine rg ?_
  refine st (mvI rfl) ?_
  refine sc cl22 (keep_Pick_ok _ _ _ (by omega) (by omega)) rfl ?_
  rintro v17 w13 ⟨rfl, ho14⟩
  have hb := pick_rng x3 300 (by omega)
  have hz18 := ho14.size
  replace hL0 := hL0.ext ho14
  replace hL1 := hL1.ext ho14
  replace hE := hE.step ho14 (.inl (Nat.le_refl _))
  replace hP := hP.ext ho14
  replace hx := hx.ext ho14
  refine st (y_add rfl rfl (by omega)) ?_
  refine st (mvI rfl) ?_
  refine st (mvS rfl) ?_
  refine st (y_len Try.underlying23 rfl) ?_
  refine st (y_add rfl rfl (by omega)) ?_
  refine sc cl22 (keep_Pick_ok _ _ _ (by omega) (by omega)) rfl ?_
  rintro v23 w19 ⟨rfl, ho20⟩
  have ht := pick_rng x2 ((rows.length : Int) + 2) (by omega)
  have hz24 := ho20.size
  replace hL0 := hL0.ext ho20
  replace hL1 := hL1.ext ho20
  replace hE := hE.step ho20 (.inl (Nat.le_refl _))
  replace hP := hP.ext ho20
  replace hx := hx.ext ho20
  refine st (y_sub rfl rfl (by omega)) ?_
  refine st (asI rfl) ?_
  refine st (asI rfl) ?_
  refine rg_end ?_
  refine n_then ?_
  refine wp_seq ?_
  refine rg ?_
  refine st (mvS rfl) ?_
  refine st (mvS rfl) ?_
  refine st (mvI rfl) ?_
  refine sc cl17 (dead_Search_ok rows _ _ _ _ at_ _ _ _ _ (1 + pick x3 300) _ hP (by omega) (Ow.sl hx) hln (by omega)) rfl ?_
  rintro v29 w25 ⟨ad1, cc1, s1, n1, e1, k1, rfl, hck1, hsr1, hO1, ho26⟩
  have hs1l := sr_len2 hva hg hsr1
  have hz30 := ho26.size
  replace hL0 := hL0.ext ho26
  replace hL1 := hL1.ext ho26
  replace hE := hE.step ho26 (.inl (Nat.le_refl _))
  replace hP := hP.ext ho26
  replace hx := hx.ext ho26
  refine st (mvT rfl) ?_
  refine st (y_ext rfl rfl) ?_
  refine st (y_ext rfl rfl) ?_
  refine st (y_ext rfl rfl) ?_
  refine st (asS rfl) ?_
  refine st (asI rfl) ?_
  refine st (asI rfl) ?_
  refine rg_end ?_
  refine n_then ?_
  refine wp_seq ?_
  refine rg ?_
  refine st (mvS rfl) ?_
  refine st (mvS rfl) ?_
  refine st (mvI rfl) ?_
  refine sc cl29 (ref35_Search_ok rows _ _ _ _ at_ _ _ _ _ (1 + pick x3 300) _ hP (by omega) (Ow.sl hx) hln (by omega)) rfl ?_
  rintro v35 w31 ⟨ad2, cc2, s2, n2, e2, k2, rfl, hck2, hsr2, hO2, ho32⟩
  rw [hck1.uniq hck2, ← hsr2] at hsr1
  have q1 : s1 = s2 := congrArg Prod.fst hsr1
  have q2 : n1 = n2 := congrArg (fun q => q.2.1) hsr1
  have q3 : e1 = e2 := congrArg (fun q => q.2.2) hsr1
  have hz36 := ho32.size
  replace hL0 := hL0.ext ho32
  replace hL1 := hL1.ext ho32
  replace hE := hE.step ho32 (.inl (Nat.le_refl _))
  replace hP := hP.ext ho32
  replace hx := hx.ext ho32
  replace hO1 := hO1.ext ho32
  refine st (mvT rfl) ?_
  refine st (y_ext rfl rfl) ?_
  refine st (y_ext rfl rfl) ?_
  refine st (y_ext rfl rfl) ?_
  refine st (asS rfl) ?_
  refine st (asI rfl) ?_
  refine st (asI rfl) ?_
  refine rg_end ?_
  refine n_then ?_
  refine wp_seq ?_
  refine rg ?_
  refine st (mvS rfl) ?_
  refine st (mvS rfl) ?_
  refine st (mvI rfl) ?_
  refine st (mvI rfl) ?_
  refine sc cl24 (dead_Admit_ok rows _ _ _ _ at_ _ _ _ _ (pick x2 ((rows.length : Int) + 2) - 1) (1 + pick x3 300) _ hP (by omega) (Ow.sl hx) hln (by omega)) rfl ?_
  rintro v41 w37 ⟨n3, e3, k3, rfl, hck3, had3, ho38⟩
  have hz42 := ho38.size
  replace hL0 := hL0.ext ho38
  replace hL1 := hL1.ext ho38
  replace hE := hE.step ho38 (.inl (Nat.le_refl _))
  replace hP := hP.ext ho38
  replace hx := hx.ext ho38
  replace hO1 := hO1.ext ho38
  replace hO2 := hO2.ext ho38
  refine st (mvT rfl) ?_
  refine st (y_ext rfl rfl) ?_
  refine st (y_ext rfl rfl) ?_
  refine st (asI rfl) ?_
  refine st (asI rfl) ?_
  refine rg_end ?_
  refine n_then ?_
  refine wp_seq ?_
  refine rg ?_
  refine st (mvS rfl) ?_
  refine st (mvS rfl) ?_
  refine st (mvI rfl) ?_
  refine st (mvI rfl) ?_
  refine sc cl30 (ref35_Admit_ok rows _ _ _ _ at_ _ _ _ _ (pick x2 ((rows.length : Int) + 2) - 1) (1 + pick x3 300) _ hP (by omega) (Ow.sl hx) hln (by omega)) rfl ?_
  rintro v47 w43 ⟨n4, e4, k4, rfl, hck4, had4, ho44⟩
  rw [hck3.uniq hck4, ← had4] at had3
  have q4 : n3 = n4 := congrArg Prod.fst had3
  have q5 : e3 = e4 := congrArg Prod.snd had3
  have hz48 := ho44.size
  replace hL0 := hL0.ext ho44
  replace hL1 := hL1.ext ho44
  replace hE := hE.step ho44 (.inl (Nat.le_refl _))
  replace hP := hP.ext ho44
  replace hx := hx.ext ho44
  replace hO1 := hO1.ext ho44
  replace hO2 := hO2.ext ho44
  refine st (mvT rfl) ?_
  refine st (y_ext rfl rfl) ?_
  refine st (y_ext rfl rfl) ?_
  refine st (asI rfl) ?_
  refine st (asI rfl) ?_
  refine rg_end ?_
  refine n_then ?_
  refine wp_seq ?_
  refine rg ?_
  refine sc cl16 (law36_awake_ok _) rfl ?_
  rintro v53 w49 ⟨rfl, ho50⟩
  have hz54 := ho50.size
  replace hL0 := hL0.ext ho50
  replace hL1 := hL1.ext ho50
  replace hE := hE.step ho50 (.inl (Nat.le_refl _))
  replace hP := hP.ext ho50
  replace hx := hx.ext ho50
  replace hO1 := hO1.ext ho50
  replace hO2 := hO2.ext ho50
  refine st (mvB rfl) ?_
  refine stg rfl rfl rfl (mvS rfl) ?_
  refine stg rfl rfl rfl (mvS rfl) ?_
  refine scg rfl rfl rfl cl31 (dead_Check_ok rows _ _ _ _ at_ _ _ _ _ _ hP (by omega) (Ow.sl hx) hln (by omega)) rfl ?_
  rintro v59 w55 ⟨k5, rfl, hck5, ho56⟩
  have hz60 := ho56.size
  replace hL0 := hL0.ext ho56
  replace hL1 := hL1.ext ho56
  replace hE := hE.step ho56 (.inl (Nat.le_refl _))
  replace hP := hP.ext ho56
  replace hx := hx.ext ho56
  replace hO1 := hO1.ext ho56
  replace hO2 := hO2.ext ho56
  refine stg rfl rfl rfl (mvS rfl) ?_
  refine stg rfl rfl rfl (mvS rfl) ?_
  refine scg rfl rfl rfl cl15 (ref35_CheckState_ok rows _ _ _ _ at_ _ _ _ _ _ hP (by omega) (Ow.sl hx) hln (by omega)) rfl ?_
  rintro v65 w61 ⟨k6, rfl, hck6, ho62⟩
  have q6 := hck5.uniq hck6
  have hz66 := ho62.size
  replace hL0 := hL0.ext ho62
  replace hL1 := hL1.ext ho62
  replace hE := hE.step ho62 (.inl (Nat.le_refl _))
  replace hP := hP.ext ho62
  replace hx := hx.ext ho62
  replace hO1 := hO1.ext ho62
  replace hO2 := hO2.ext ho62
  refine stg rfl rfl rfl (y_eql rfl rfl) ?_
  refine st (y_pickT rfl rfl (v := .bool _) rfl) ?_
  refine st (mvB rfl) ?_
  refine gspL 79 rfl (fun hg67 => ?_) (fun hg67 => ?_)
  ·
    have hg67n := hg67; try simp only [decide_eq_true_eq, decide_eq_false_iff_not, Bool.not_eq_true', Bool.not_eq_false', Bool.and_eq_true, Bool.or_eq_true, Bool.or_eq_false_iff, Bool.cond_true_right, Bool.cond_false_right, Bool.cond_true_left, Bool.cond_false_left, ne_eq, Decidable.not_not, bne_iff_ne, beq_iff_eq, beq_eq_false_iff_ne, Bool.not_true, Bool.not_false] at hg67n
    refine stg rfl rfl hg67 (mvS rfl) ?_
    refine stg rfl rfl hg67 (mvS rfl) ?_
    refine scg rfl rfl hg67 cl23 (dead_Moves_ok rows _ _ _ _ at_ _ _ _ _ _ hP (by omega) (Ow.sl hx) hln (by omega)) rfl ?_
    rintro v72 w68 ⟨ad7, cc7, l7, rfl, hO7, hmv7, ho69⟩
    have hm7 := mv_len hmv7
    have hz73 := ho69.size
    replace hL0 := hL0.ext ho69
    replace hL1 := hL1.ext ho69
    replace hE := hE.step ho69 (.inl (Nat.le_refl _))
    replace hP := hP.ext ho69
    replace hx := hx.ext ho69
    replace hO1 := hO1.ext ho69
    replace hO2 := hO2.ext ho69
    refine stg rfl rfl hg67 (mvS rfl) ?_
    refine stg rfl rfl hg67 (mvS rfl) ?_
    refine scg rfl rfl hg67 cl20 (ref35_Moves_ok rows _ _ _ _ at_ _ _ _ _ _ hP (by omega) (Ow.sl hx) hln (by omega)) rfl ?_
    rintro v78 w74 ⟨ad8, cc8, l8, rfl, hO8, hmv8, ho75⟩
    have q7 := mv_eq hmv7 hmv8
    have hz79 := ho75.size
    replace hL0 := hL0.ext ho75
    replace hL1 := hL1.ext ho75
    replace hE := hE.step ho75 (.inl (Nat.le_refl _))
    replace hP := hP.ext ho75
    replace hx := hx.ext ho75
    replace hO1 := hO1.ext ho75
    replace hO2 := hO2.ext ho75
    replace hO7 := hO7.ext ho75
    refine scg rfl rfl hg67 cl28 (keep_Same_int_ok l7 l8 _ _ _ _ _ _ _ _ _ (Ow.sl hO7) (Ow.sl hO8) (by omega)) rfl ?_
    rintro v84 w80 ⟨rfl, ho81⟩
    have hz85 := ho81.size
    replace hL0 := hL0.ext ho81
    replace hL1 := hL1.ext ho81
    replace hE := hE.step ho81 (.inl (Nat.le_refl _))
    replace hP := hP.ext ho81
    replace hx := hx.ext ho81
    replace hO1 := hO1.ext ho81
    replace hO2 := hO2.ext ho81
    replace hO7 := hO7.ext ho81
    replace hO8 := hO8.ext ho81
    refine st (y_pickT rfl hg67 (v := .bool _) rfl) ?_
    refine st (mvB rfl) ?_
    refine gspL 88 rfl (fun hg86 => ?_) (fun hg86 => ?_)
    ·
      have hg86n := hg86; try simp only [decide_eq_true_eq, decide_eq_false_iff_not, Bool.not_eq_true', Bool.not_eq_false', Bool.and_eq_true, Bool.or_eq_true, Bool.or_eq_false_iff, Bool.cond_true_right, Bool.cond_false_right, Bool.cond_true_left, Bool.cond_false_left, ne_eq, Decidable.not_not, bne_iff_ne, beq_iff_eq, beq_eq_false_iff_ne, Bool.not_true, Bool.not_false] at hg86n
      refine stg rfl rfl hg86 (mvS rfl) ?_
      refine stg rfl rfl hg86 (mvS rfl) ?_
      refine scg rfl rfl hg86 cl28 (keep_Same_int_ok s1 s2 _ _ _ _ _ _ _ _ _ (Ow.sl hO1) (Ow.sl hO2) (by omega)) rfl ?_
      rintro v91 w87 ⟨rfl, ho88⟩
      have hz92 := ho88.size
      replace hL0 := hL0.ext ho88
      replace hL1 := hL1.ext ho88
      replace hE := hE.step ho88 (.inl (Nat.le_refl _))
      replace hP := hP.ext ho88
      replace hx := hx.ext ho88
      replace hO1 := hO1.ext ho88
      replace hO2 := hO2.ext ho88
      replace hO7 := hO7.ext ho88
      replace hO8 := hO8.ext ho88
      refine st (y_pickT rfl hg86 (v := .bool _) rfl) ?_
      refine st (mvB rfl) ?_
      refine gspL 93 rfl (fun hg93 => ?_) (fun hg93 => ?_)
      ·
        have hg93n := hg93; try simp only [decide_eq_true_eq, decide_eq_false_iff_not, Bool.not_eq_true', Bool.not_eq_false', Bool.and_eq_true, Bool.or_eq_true, Bool.or_eq_false_iff, Bool.cond_true_right, Bool.cond_false_right, Bool.cond_true_left, Bool.cond_false_left, ne_eq, Decidable.not_not, bne_iff_ne, beq_iff_eq, beq_eq_false_iff_ne, Bool.not_true, Bool.not_false] at hg93n
        refine stg rfl rfl hg93 (mvI rfl) ?_
        refine stg rfl rfl hg93 (mvI rfl) ?_
        refine stg rfl rfl hg93 (y_eql rfl rfl) ?_
        refine st (y_pickT rfl hg93 (v := .bool _) rfl) ?_
        refine st (mvB rfl) ?_
        refine gspL 98 rfl (fun hg94 => ?_) (fun hg94 => ?_)
        ·
          have hg94n := hg94; try simp only [decide_eq_true_eq, decide_eq_false_iff_not, Bool.not_eq_true', Bool.not_eq_false', Bool.and_eq_true, Bool.or_eq_true, Bool.or_eq_false_iff, Bool.cond_true_right, Bool.cond_false_right, Bool.cond_true_left, Bool.cond_false_left, ne_eq, Decidable.not_not, bne_iff_ne, beq_iff_eq, beq_eq_false_iff_ne, Bool.not_true, Bool.not_false] at hg94n
          refine stg rfl rfl hg94 (mvI rfl) ?_
          refine stg rfl rfl hg94 (mvI rfl) ?_
          refine stg rfl rfl hg94 (y_eql rfl rfl) ?_
          refine st (y_pickT rfl hg94 (v := .bool _) rfl) ?_
          refine st (mvB rfl) ?_
          refine gspL 103 rfl (fun hg95 => ?_) (fun hg95 => ?_)
          ·
            have hg95n := hg95; try simp only [decide_eq_true_eq, decide_eq_false_iff_not, Bool.not_eq_true', Bool.not_eq_false', Bool.and_eq_true, Bool.or_eq_true, Bool.or_eq_false_iff, Bool.cond_true_right, Bool.cond_false_right, Bool.cond_true_left, Bool.cond_false_left, ne_eq, Decidable.not_not, bne_iff_ne, beq_iff_eq, beq_eq_false_iff_ne, Bool.not_true, Bool.not_false] at hg95n
            refine stg rfl rfl hg95 (mvI rfl) ?_
            refine stg rfl rfl hg95 (mvI rfl) ?_
            refine stg rfl rfl hg95 (y_eql rfl rfl) ?_
            refine st (y_pickT rfl hg95 (v := .bool _) rfl) ?_
            refine st (mvB rfl) ?_
            refine gspL 108 rfl (fun hg96 => ?_) (fun hg96 => ?_)
            ·
              have hg96n := hg96; try simp only [decide_eq_true_eq, decide_eq_false_iff_not, Bool.not_eq_true', Bool.not_eq_false', Bool.and_eq_true, Bool.or_eq_true, Bool.or_eq_false_iff, Bool.cond_true_right, Bool.cond_false_right, Bool.cond_true_left, Bool.cond_false_left, ne_eq, Decidable.not_not, bne_iff_ne, beq_iff_eq, beq_eq_false_iff_ne, Bool.not_true, Bool.not_false] at hg96n
              refine stg rfl rfl hg96 (mvI rfl) ?_
              refine stg rfl rfl hg96 (mvI rfl) ?_
              refine stg rfl rfl hg96 (y_eql rfl rfl) ?_
              refine st (y_pickT rfl hg96 (v := .bool _) rfl) ?_
              refine st (mvB rfl) ?_
              refine gspL 113 rfl (fun hg97 => ?_) (fun hg97 => ?_)
              ·
                have hg97n := hg97; try simp only [decide_eq_true_eq, decide_eq_false_iff_not, Bool.not_eq_true', Bool.not_eq_false', Bool.and_eq_true, Bool.or_eq_true, Bool.or_eq_false_iff, Bool.cond_true_right, Bool.cond_false_right, Bool.cond_true_left, Bool.cond_false_left, ne_eq, Decidable.not_not, bne_iff_ne, beq_iff_eq, beq_eq_false_iff_ne, Bool.not_true, Bool.not_false] at hg97n
                refine stg rfl rfl hg97 (mvS rfl) ?_
                refine stg rfl rfl hg97 (mvS rfl) ?_
                refine scg rfl rfl hg97 cl25 (dead_Knot_ok rows _ _ _ _ at_ _ _ _ _ _ hP (by omega) (Ow.sl hx) hln (by omega)) rfl ?_
                rintro v102 w98 ⟨ad9, cc9, l9, rfl, hO9, hmv9, ho99⟩
                have hm9 := kn_len hmv9
                have hz103 := ho99.size
                replace hL0 := hL0.ext ho99
                replace hL1 := hL1.ext ho99
                replace hE := hE.step ho99 (.inl (Nat.le_refl _))
                replace hP := hP.ext ho99
                replace hx := hx.ext ho99
                replace hO1 := hO1.ext ho99
                replace hO2 := hO2.ext ho99
                replace hO7 := hO7.ext ho99
                replace hO8 := hO8.ext ho99
                refine stg rfl rfl hg97 (mvS rfl) ?_
                refine stg rfl rfl hg97 (mvS rfl) ?_
                refine scg rfl rfl hg97 cl32 (ref35_Knot_ok rows _ _ _ _ at_ _ _ _ _ _ hP (by omega) (Ow.sl hx) hln (by omega)) rfl ?_
                rintro v108 w104 ⟨adx, ccx, lx, rfl, hOx, hmvx, ho105⟩
                have q8 := kn_eq hmv9 hmvx
                have hz109 := ho105.size
                replace hL0 := hL0.ext ho105
                replace hL1 := hL1.ext ho105
                replace hE := hE.step ho105 (.inl (Nat.le_refl _))
                replace hP := hP.ext ho105
                replace hx := hx.ext ho105
                replace hO1 := hO1.ext ho105
                replace hO2 := hO2.ext ho105
                replace hO7 := hO7.ext ho105
                replace hO8 := hO8.ext ho105
                replace hO9 := hO9.ext ho105
                refine scg rfl rfl hg97 cl28 (keep_Same_int_ok l9 lx _ _ _ _ _ _ _ _ _ (Ow.sl hO9) (Ow.sl hOx) (by omega)) rfl ?_
                rintro v114 w110 ⟨rfl, ho111⟩
                have hz115 := ho111.size
                replace hL0 := hL0.ext ho111
                replace hL1 := hL1.ext ho111
                replace hE := hE.step ho111 (.inl (Nat.le_refl _))
                replace hP := hP.ext ho111
                replace hx := hx.ext ho111
                replace hO1 := hO1.ext ho111
                replace hO2 := hO2.ext ho111
                replace hO7 := hO7.ext ho111
                replace hO8 := hO8.ext ho111
                replace hO9 := hO9.ext ho111
                replace hOx := hOx.ext ho111
                refine st (y_pickT rfl hg97 (v := .bool _) rfl) ?_
                refine st (asB rfl) ?_
                refine rg_end ?_
                refine n_then ?_
                refine wp_ret ?_
                refine ret1 (v := (.bool _)) Try.results12 rfl ?_
                exact ⟨vb (by simp [q8]), hE⟩
              ·
                have hg97n := hg97; try simp only [decide_eq_true_eq, decide_eq_false_iff_not, Bool.not_eq_true', Bool.not_eq_false', Bool.and_eq_true, Bool.or_eq_true, Bool.or_eq_false_iff, Bool.cond_true_right, Bool.cond_false_right, Bool.cond_true_left, Bool.cond_false_left, ne_eq, Decidable.not_not, bne_iff_ne, beq_iff_eq, beq_eq_false_iff_ne, Bool.not_true, Bool.not_false] at hg97n
                exact absurd (decide_eq_true (q5)) (by rw [hg97]; decide)
            ·
              have hg96n := hg96; try simp only [decide_eq_true_eq, decide_eq_false_iff_not, Bool.not_eq_true', Bool.not_eq_false', Bool.and_eq_true, Bool.or_eq_true, Bool.or_eq_false_iff, Bool.cond_true_right, Bool.cond_false_right, Bool.cond_true_left, Bool.cond_false_left, ne_eq, Decidable.not_not, bne_iff_ne, beq_iff_eq, beq_eq_false_iff_ne, Bool.not_true, Bool.not_false] at hg96n
              exact absurd (decide_eq_true (q4)) (by rw [hg96]; decide)
          ·
            have hg95n := hg95; try simp only [decide_eq_true_eq, decide_eq_false_iff_not, Bool.not_eq_true', Bool.not_eq_false', Bool.and_eq_true, Bool.or_eq_true, Bool.or_eq_false_iff, Bool.cond_true_right, Bool.cond_false_right, Bool.cond_true_left, Bool.cond_false_left, ne_eq, Decidable.not_not, bne_iff_ne, beq_iff_eq, beq_eq_false_iff_ne, Bool.not_true, Bool.not_false] at hg95n
            exact absurd (decide_eq_true (q3)) (by rw [hg95]; decide)
        ·
          have hg94n := hg94; try simp only [decide_eq_true_eq, decide_eq_false_iff_not, Bool.not_eq_true', Bool.not_eq_false', Bool.and_eq_true, Bool.or_eq_true, Bool.or_eq_false_iff, Bool.cond_true_right, Bool.cond_false_right, Bool.cond_true_left, Bool.cond_false_left, ne_eq, Decidable.not_not, bne_iff_ne, beq_iff_eq, beq_eq_false_iff_ne, Bool.not_true, Bool.not_false] at hg94n
          exact absurd (decide_eq_true (q2)) (by rw [hg94]; decide)
      ·
        have hg93n := hg93; try simp only [decide_eq_true_eq, decide_eq_false_iff_not, Bool.not_eq_true', Bool.not_eq_false', Bool.and_eq_true, Bool.or_eq_true, Bool.or_eq_false_iff, Bool.cond_true_right, Bool.cond_false_right, Bool.cond_true_left, Bool.cond_false_left, ne_eq, Decidable.not_not, bne_iff_ne, beq_iff_eq, beq_eq_false_iff_ne, Bool.not_true, Bool.not_false] at hg93n
        exact absurd (decide_eq_true (q1)) (by rw [hg93]; decide)
    ·
      have hg86n := hg86; try simp only [decide_eq_true_eq, decide_eq_false_iff_not, Bool.not_eq_true', Bool.not_eq_false', Bool.and_eq_true, Bool.or_eq_true, Bool.or_eq_false_iff, Bool.cond_true_right, Bool.cond_false_right, Bool.cond_true_left, Bool.cond_false_left, ne_eq, Decidable.not_not, bne_iff_ne, beq_iff_eq, beq_eq_false_iff_ne, Bool.not_true, Bool.not_false] at hg86n
      exact absurd (decide_eq_true (q7)) (by rw [hg86]; decide)
  ·
    have hg67n := hg67; try simp only [decide_eq_true_eq, decide_eq_false_iff_not, Bool.not_eq_true', Bool.not_eq_false', Bool.and_eq_true, Bool.or_eq_true, Bool.or_eq_false_iff, Bool.cond_true_right, Bool.cond_false_right, Bool.cond_true_left, Bool.cond_false_left, ne_eq, Decidable.not_not, bne_iff_ne, beq_iff_eq, beq_eq_false_iff_ne, Bool.not_true, Bool.not_false] at hg67n
    exact absurd (decide_eq_true (q6)) (by rw [hg67]; decide)
end Go.Proofs.Yteicgnmggkhlbaa
