/-
  The interlocking's steps: what is fixed does not move, flanks of held resources lie right, what a grant gives.
-/
import Derived.Test.YtciljdhihnnfiaaIlx
namespace Go.Wk
set_option linter.unusedVariables false
set_option linter.unusedSimpArgs false

inductive IStep (S : IS) : IS → Prop
  | rep (r v : Int) : IStep S (repS S r v)
  | clo (r : Int) (c : Bool) : IStep S (cloS S r c)
  | free (t r : Int) : IStep S (freeS S t r)
  | grant (t : Int) (l : List Lk) : IStep S (grantS S t l)

theorem IStep.ok {S S' : IS} (h : IStep S S') (hS : IsOk S) : IsOk S' := by
  cases h with
  | rep r v => exact repS_ok hS r v
  | clo r c => exact cloS_ok hS r c
  | free t r => exact freeS_ok hS t r
  | grant t l => exact grantS_ok hS t l
theorem IStep.same {S S' : IS} (h : IStep S S') : S'.fl = S.fl ∧ S'.rs.length = S.rs.length := by
  cases h with
  | rep r v => unfold repS; split <;> simp
  | clo r c => unfold cloS; split <;> simp
  | free t r => unfold freeS; split <;> simp
  | grant t l => unfold grantS; split <;> simp [grantR_len]

theorem flk_out {S : IS} (hS : IsOk S) {r : Int} (h : isR S r = false) : flk S r = 0 := by
  have : S.fl.countP (fun f => decide (f.pt = r) && held S f) = 0 := by
    rw [List.countP_eq_zero]
    intro f hf
    have hr := hS.fl.ok f hf
    have hne : f.pt ≠ r := fun e => by
      rw [isR, decide_eq_false_iff_not] at h
      exact h ⟨by omega, by omega⟩
    simp [hne]
  unfold flk
  rw [this]
  rfl

theorem fkGo_jam {S : IS} {B : Int → Bool} : ∀ (l : List Fk) (W : Int → Int), fkGo S B l W = 0 → ∀ f ∈ l, B f.rs = true → jam S f = false
  | [], _, _, f, hf, _ => by cases hf
  | g :: r, W, h, f, hf, hb => by
    unfold fkGo at h
    cases hg : B g.rs with
    | false =>
      rw [hg, if_pos rfl] at h
      rcases List.mem_cons.1 hf with rfl | hf
      · rw [hg] at hb; cases hb
      · exact fkGo_jam r W h f hf hb
    | true =>
      rw [hg, if_neg (by decide)] at h
      split at h
      · cases h
      · split at h
        · cases h
        · rename_i h2
          rcases List.mem_cons.1 hf with rfl | hf
          · simpa using h2
          · exact fkGo_jam r _ h f hf hb

/-- A wish that stands is kept. -/
theorem fkGo_keep {S : IS} {B : Int → Bool} {p v : Int} : ∀ (l : List Fk) (W : Int → Int), fkGo S B l W = 0 → W p = v → 0 ≤ v → wanF W (movesOf B l) p = v
  | [], W, _, h, _ => h
  | g :: r, W, h, hw, hv => by
    unfold fkGo at h
    cases hg : B g.rs with
    | false =>
      rw [hg, if_pos rfl] at h
      have e : movesOf B (g :: r) = movesOf B r := by unfold movesOf; rw [List.filter_cons_of_neg (by simp [hg])]
      rw [e]; exact fkGo_keep r W h hw hv
    | true =>
      rw [hg, if_neg (by decide)] at h
      have e : movesOf B (g :: r) = g :: movesOf B r := by unfold movesOf; rw [List.filter_cons_of_pos (by simp [hg])]
      split at h
      · cases h
      · rename_i hc
        split at h
        · cases h
        · rw [e]
          show wanF (upd W g.pt g.po) (movesOf B r) p = v
          refine fkGo_keep r _ h ?_ hv
          by_cases q : p = g.pt
          · subst q
            rw [upd_same]
            have hc' : clash W g = false := by simpa using hc
            unfold clash at hc'
            rw [decide_eq_false_iff_not] at hc'
            exact Decidable.byContradiction fun hne => hc' ⟨by omega, fun e => hne (by omega)⟩
          · rw [upd_ne _ _ q]; exact hw
theorem fkGo_put {S : IS} {B : Int → Bool} : ∀ (l : List Fk) (W : Int → Int), fkGo S B l W = 0 → ∀ f ∈ l, B f.rs = true → 0 ≤ f.po → wanF W (movesOf B l) f.pt = f.po
  | [], _, _, f, hf, _, _ => by cases hf
  | g :: r, W, h, f, hf, hb, hp => by
    unfold fkGo at h
    cases hg : B g.rs with
    | false =>
      rw [hg, if_pos rfl] at h
      have e : movesOf B (g :: r) = movesOf B r := by unfold movesOf; rw [List.filter_cons_of_neg (by simp [hg])]
      rw [e]
      rcases List.mem_cons.1 hf with rfl | hf
      · rw [hg] at hb; cases hb
      · exact fkGo_put r W h f hf hb hp
    | true =>
      rw [hg, if_neg (by decide)] at h
      have e : movesOf B (g :: r) = g :: movesOf B r := by unfold movesOf; rw [List.filter_cons_of_pos (by simp [hg])]
      split at h
      · cases h
      · split at h
        · cases h
        · rw [e]
          show wanF (upd W g.pt g.po) (movesOf B r) f.pt = f.po
          rcases List.mem_cons.1 hf with rfl | hf
          · exact fkGo_keep r _ h (upd_same _ _ _) hp
          · exact fkGo_put r _ h f hf hb hp

theorem nw_true {S : IS} {l : List Lk} {i : Int} (hl : l.any (fun k => decide (k.rs = i)) = true) (hi : (el S.rs i).ho = -1) : nw S l i = true := by
  have key : ∀ (l : List Lk) (B : Int → Bool), (B i = true ∨ l.any (fun k => decide (k.rs = i)) = true) → (l.foldl (nwUp S) B) i = true := by
    intro l
    induction l with
    | nil => intro B h; simpa using h
    | cons k l ih =>
      intro B h
      rw [List.foldl_cons]
      apply ih
      by_cases e : i = k.rs
      · left; unfold nwUp; subst e; rw [upd_same, hi]; rfl
      · rcases h with h | h
        · left; unfold nwUp; rw [upd_ne _ _ e]; exact h
        · right
          have e' : ¬ k.rs = i := fun q => e q.symm
          simpa [e'] using h
  exact key l _ (.inr hl)

/-- Where a grant wishes another position, the resource is free, and no flank requires it. -/
theorem grW_free {S : IS} {t : Int} {l : List Lk} (hS : IsOk S) (h : grantE S t l = 0) (i : Int) (h0 : 0 ≤ grW S l i) (hne : (el S.rs i).po ≠ grW S l i) : (el S.rs i).ho = -1 ∧ ¬ 0 < flk S i := by
  obtain ⟨ht, hl, _, _, hlz, hgo⟩ := grantE_zero h
  rcases wanF_cases (movesOf (nw S l) S.fl) (wan S l) i with e | ⟨f, hf, rfl, e⟩
  · have ha := ask_start hS hl hlz (V := wan S l) (fun _ _ => rfl)
    unfold grW at h0 hne
    rw [e] at h0 hne
    exact ha.free i h0 hne
  · obtain ⟨hm, hb⟩ := List.mem_filter.1 hf
    have hj := fkGo_jam _ _ hgo f hm (by simpa using hb)
    unfold grW at hne
    rw [e] at hne
    unfold jam at hj
    rw [decide_eq_false_iff_not] at hj
    exact ⟨Decidable.byContradiction fun q => hj ⟨hne, .inl q⟩, fun q => hj ⟨hne, .inr q⟩⟩

/-- A resource that is held, or required by a flank, does not move. -/
theorem IStep.fixed {S S' : IS} (h : IStep S S') (hS : IsOk S) {i : Int} (h0 : 0 ≤ i) (h1 : i < S.rs.length) (hf : (el S.rs i).ho ≠ -1 ∨ 0 < flk S i) : (el S'.rs i).po = (el S.rs i).po := by
  have setc : ∀ (r : Int) (v : Rs), isR S r = true → v.po = (el S.rs r).po → (el (S.rs.set r.toNat v) i).po = (el S.rs i).po := fun r v hr hv => by
    obtain ⟨r0, r1⟩ := isR_iff.1 hr
    by_cases e : i = r
    · subst e; rw [el_set_same r0 r1]; exact hv
    · rw [el_set_ne r0 h0 e]
  cases h with
  | rep r v =>
    unfold repS
    split
    · rename_i hb; exact setc r _ (by simp only [repB, Bool.and_eq_true] at hb; exact hb.1) rfl
    · rfl
  | clo r c =>
    unfold cloS
    split
    · rename_i hb; exact setc r _ hb rfl
    · rfl
  | free t r =>
    unfold freeS
    split
    · rename_i hb
      refine setc r _ ?_ rfl
      unfold freeE at hb
      split at hb
      · rename_i hc; exact hc.2
      · cases hb
    · rfl
  | grant t l =>
    unfold grantS
    split
    · rename_i he
      show (el (grantR S t l) i).po = _
      rw [grantR_el h0 h1]
      unfold grRs
      dsimp only
      split
      · rename_i hw
        exact Decidable.byContradiction fun hne => by
          obtain ⟨q1, q2⟩ := grW_free hS he i hw (fun e => hne e.symm)
          rcases hf with hf | hf
          · exact hf q1
          · exact q2 hf
      · rfl
    · rfl

def SafeI (S : IS) : Prop := ∀ f ∈ S.fl, (el S.rs f.rs).ho ≠ -1 → (el S.rs f.pt).po = f.po

theorem flk_pos {S : IS} {f : Fk} (hf : f ∈ S.fl) (hh : (el S.rs f.rs).ho ≠ -1) : 0 < flk S f.pt := by
  have : 0 < S.fl.countP (fun g => decide (g.pt = f.pt) && held S g) := List.countP_pos_iff.2 ⟨f, hf, by simp [held, hh]⟩
  unfold flk
  omega

theorem IStep.safe {S S' : IS} (h : IStep S S') (hS : IsOk S) (hs : SafeI S) : SafeI S' := by
  have hfix := fun {i : Int} (h0 : 0 ≤ i) (h1 : i < S.rs.length) hf => h.fixed hS h0 h1 (i := i) hf
  have hsm := h.same
  intro f hf hh
  rw [hsm.1] at hf
  have hr := hS.fl.ok f hf
  by_cases q : (el S.rs f.rs).ho ≠ -1
  · rw [hfix hr.2.2.1 hr.2.2.2.1 (.inr (flk_pos hf q))]; exact hs f hf q
  · have q' : (el S.rs f.rs).ho = -1 := Decidable.not_not.1 q
    have setc : ∀ (r : Int) (v : Rs), isR S r = true → (v.ho = (el S.rs r).ho ∨ v.ho = -1) → (el (S.rs.set r.toNat v) f.rs).ho = -1 := fun r v hr' hv => by
      obtain ⟨r0, r1⟩ := isR_iff.1 hr'
      by_cases e : f.rs = r
      · rw [← e, el_set_same hr.1 hr.2.1]
        rcases hv with hv | hv
        · rw [hv, ← e]; exact q'
        · exact hv
      · rw [el_set_ne r0 hr.1 e]; exact q'
    cases h with
    | rep r v =>
      unfold repS at hh
      split at hh
      · rename_i hb; exact absurd (setc r { el S.rs r with re := v } (by simp only [repB, Bool.and_eq_true] at hb; exact hb.1) (.inl rfl)) hh
      · exact absurd q' hh
    | clo r c =>
      unfold cloS at hh
      split at hh
      · rename_i hb; exact absurd (setc r { el S.rs r with cl := c } hb (.inl rfl)) hh
      · exact absurd q' hh
    | free t r =>
      unfold freeS at hh
      split at hh
      · rename_i hb
        refine absurd (setc r { el S.rs r with ho := -1 } ?_ (.inr rfl)) hh
        unfold freeE at hb
        split at hb
        · rename_i hc; exact hc.2
        · cases hb
      · exact absurd q' hh
    | grant t l =>
      unfold grantS at hh ⊢
      split at hh
      · rename_i he
        rw [if_pos he]
        obtain ⟨ht, hl, _, _, hlz, hgo⟩ := grantE_zero he
        have hh' : (el (grantR S t l) f.rs).ho ≠ -1 := hh
        rw [grantR_el hr.1 hr.2.1] at hh'
        show (el (grantR S t l) f.pt).po = f.po
        rw [grantR_el hr.2.2.1 hr.2.2.2.1]
        have hany : l.any (fun k => decide (k.rs = f.rs)) = true := by
          cases hc : l.any (fun k => decide (k.rs = f.rs)) with
          | true => rfl
          | false =>
            unfold grRs at hh'
            simp only [hc, Bool.false_eq_true, if_false] at hh'
            exact absurd q' hh'
        have hput := fkGo_put _ _ hgo f hf (nw_true hany q') hr.2.2.2.2.1
        unfold grRs
        dsimp only
        rw [show grW S l f.pt = f.po from hput, if_pos hr.2.2.2.2.1]
      · exact absurd q' hh
theorem safe_init {n : Nat} {fl : List Fk} (h : IsOk (initS n fl)) : SafeI (initS n fl) := by
  intro f hf hh
  have hr := h.fl.ok f hf
  have e : el (initS n fl).rs f.rs = ⟨-1, 0, 0, false⟩ := el_rep hr.1 (by have := hr.2.1; simpa [initS] using this)
  rw [e] at hh
  exact absurd rfl hh

/-- What a grant that is given holds. -/
theorem grant_has {S : IS} {t : Int} {l : List Lk} (hS : IsOk S) (h : grantE S t l = 0) {k : Lk} (hk : k ∈ l) : holder (grantS S t l) k.rs = t ∧ (0 ≤ k.po → position (grantS S t l) k.rs = k.po) := by
  obtain ⟨ht, hl, _, hrep, hlz, hgo⟩ := grantE_zero h
  have hb := hl k hk
  rw [grS_ok h]
  have hR : isR ⟨grantR S t l, S.fl⟩ k.rs = true := isR_iff.2 ⟨hb.1, by rw [grantR_len]; exact hb.2.1⟩
  have hany : l.any (fun q => decide (q.rs = k.rs)) = true := List.any_eq_true.2 ⟨k, hk, by simp⟩
  refine ⟨?_, fun hp => ?_⟩
  · unfold holder
    rw [if_pos hR]
    show (el (grantR S t l) k.rs).ho = t
    rw [grantR_el hb.1 hb.2.1]
    unfold grRs
    simp only [hany, if_true]
  · unfold position
    rw [if_pos hR]
    show (el (grantR S t l) k.rs).po = k.po
    rw [grantR_el hb.1 hb.2.1]
    have hw : wan S l k.rs = k.po := by
      obtain ⟨j, hj, rfl⟩ := List.mem_iff_getElem.1 hk
      have hjl : (j : Int) < l.length := by omega
      have hel : el l (j : Int) = l[j] := by simp [el, hj]
      have : ∀ (m : List Lk) (W : Int → Int), (∀ g ∈ m, g.rs ≠ (l[j]).rs) → (m.foldl (wanUp S) W) (l[j]).rs = W (l[j]).rs := by
        intro m
        induction m with
        | nil => intro W _; rfl
        | cons g m ih =>
          intro W hm
          rw [List.foldl_cons, ih _ (fun q hq => hm q (List.mem_cons_of_mem _ hq))]
          unfold wanUp
          rw [upd_ne _ _ (fun e => hm g List.mem_cons_self e.symm)]
      have hsplit : l = l.take (j + 1) ++ l.drop (j + 1) := (List.take_append_drop _ _).symm
      have hafter : ∀ g ∈ l.drop (j + 1), g.rs ≠ (l[j]).rs := fun g hg => by
        obtain ⟨q, hq, rfl⟩ := List.mem_iff_getElem.1 hg
        simp only [List.getElem_drop]
        simp only [List.length_drop] at hq
        have h1 : ((j + 1 + q : Nat) : Int) < l.length := by omega
        have h2 := repGo_take l _ (j + 1 + q) hrep h1 (l[j]) (by
          rw [List.mem_take_iff_getElem]
          exact ⟨j, by omega, rfl⟩)
        have h3 : el l ((j + 1 + q : Nat) : Int) = l[j + 1 + q]'(by omega) := by
          have := el_get (l := l) (i := ((j + 1 + q : Nat) : Int)) (by omega) h1
          rw [Int.toNat_natCast, List.getElem?_eq_getElem (by omega)] at this
          exact (Option.some.inj this).symm
        rw [h3] at h2
        exact fun e => h2 e.symm
      have e1 : wan S l = (l.drop (j + 1)).foldl (wanUp S) (wan S (l.take (j + 1))) := by
        unfold wan
        conv => lhs; rw [hsplit]
        rw [List.foldl_append]
      rw [e1, this _ _ hafter, wan_step hjl, hel, upd_same, if_neg (by omega)]
    have hkeep := fkGo_keep _ _ hgo hw hp
    unfold grRs
    dsimp only
    rw [show grW S l k.rs = k.po from hkeep, if_pos hp]
end Go.Wk
