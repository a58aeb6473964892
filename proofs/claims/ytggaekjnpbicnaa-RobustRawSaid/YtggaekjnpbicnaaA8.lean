/-
  Walks of the functions, printed by a program out of the code and the loops' relations.
-/
import Derived.Test.YtggaekjnpbicnaaWkD
import Derived.Test.YtggaekjnpbicnaaProg
import Derived.KernelRfl
import Derived.Test.YtggaekjnpbicnaaA7
namespace Go.Proofs.Ytggaekjnpbicnaa
open Go.Wk Go.RowKit
set_option linter.unusedVariables false
set_option linter.unusedSimpArgs false
theorem dist_uniq {N : Net} {t : List Int} {n : Nat} {M M' : Int → Int → Int} (h : DistOk N t n M) (h' : DistOk N t n M') {i j : Int} (i0 : 0 ≤ i) (i1 : i < n) (j0 : 0 ≤ j) (j1 : j < n) : M i j = M' i j := by
  rcases h.snd i j i0 i1 j0 j1 with h1 | ⟨_, h1⟩
  · rcases h'.snd i j i0 i1 j0 j1 with h2 | ⟨_, h2⟩
    · rw [h1, h2]
    · exact absurd h1 (h.least _ _ _ i0 i1 h2).1
  · rcases h'.snd i j i0 i1 j0 j1 with h2 | ⟨_, h2⟩
    · exact absurd h2 (h'.least _ _ _ i0 i1 h1).1
    · have := (h.least _ _ _ i0 i1 h2).2
      have := (h'.least _ _ _ i0 i1 h1).2
      omega

/-- What a delay leaves at an event, by the least slack on the way to it. -/
def base (m dl : Int) : Int := if m = -1 then 0 else max 0 (dl - m)
def sprd (M : Int → Int → Int) (ev dl i : Int) : Int := if i = ev then dl else base (M ev i) dl
structure SpreadOk (N : Net) (t : List Int) (ev dl : Int) (x : List Int) (e : Int) : Prop where
  e0 : e = 0
  len : x.length = N.evs.length
  val : ∃ M, DistOk N t N.evs.length M ∧ ∀ i : Int, 0 ≤ i → i < N.evs.length → el x i = sprd M ev dl i
def SpreadRes (N : Net) (t : List Int) (ev dl : Int) (x : List Int) (e : Int) : Prop :=
  if feas N t = false then x = [] ∧ e = 1
  else if ¬ (0 ≤ ev ∧ ev < N.evs.length ∧ 0 ≤ dl ∧ dl ≤ 65536) then x = [] ∧ e = 4
  else SpreadOk N t ev dl x e
theorem SpreadRes.get {N : Net} {t : List Int} {ev dl e : Int} {x : List Int} (h : SpreadRes N t ev dl x e) (hf : feas N t = true) (hr : 0 ≤ ev ∧ ev < N.evs.length ∧ 0 ≤ dl ∧ dl ≤ 65536) : SpreadOk N t ev dl x e := by
  unfold SpreadRes at h
  rwa [if_neg (by simp [hf]), if_neg (not_not_intro hr)] at h

def SprdTo (n k : Nat) (m : Int → Int) (dl : Int) (x : List Int) : Prop := x.length = n ∧ ∀ q : Nat, q < n → x.getD q 0 = if q < k then base (m q) dl else 0
theorem SprdTo.start {n : Nat} {m : Int → Int} {dl : Int} : SprdTo n 0 m dl (List.replicate n 0) := ⟨List.length_replicate, fun q hq => by simp [List.getD_eq_getElem?_getD, hq]⟩
theorem SprdTo.skip {n k : Nat} {m : Int → Int} {dl : Int} {x : List Int} (h : SprdTo n k m dl x) (hm : m k = -1) : SprdTo n (k + 1) m dl x := by
  refine ⟨h.1, fun q hq => ?_⟩
  rw [h.2 q hq]
  by_cases h1 : q < k
  · rw [if_pos h1, if_pos (by omega)]
  · rw [if_neg h1]
    by_cases h2 : q < k + 1
    · have e : q = k := by omega
      subst e
      rw [if_pos h2]; simp [base, hm]
    · rw [if_neg h2]
theorem SprdTo.set {n k : Nat} {m : Int → Int} {dl : Int} {x : List Int} (h : SprdTo n k m dl x) (hk : k < n) (hm : m k ≠ -1) : SprdTo n (k + 1) m dl (x.set (k : Int).toNat (max 0 (dl - m k))) := by
  refine ⟨by simp [h.1], fun q hq => ?_⟩
  have hl := h.1
  simp only [Int.toNat_natCast, List.getD_eq_getElem?_getD]
  by_cases e : q = k
  · subst e
    rw [List.getElem?_set_self (by omega), if_pos (by omega)]; simp [base, hm]
  · rw [List.getElem?_set_ne (by omega), ← List.getD_eq_getElem?_getD, h.2 q hq]
    by_cases h1 : q < k
    · rw [if_pos h1, if_pos (by omega)]
    · rw [if_neg h1, if_neg (by omega)]
theorem SprdTo.done {N : Net} {t : List Int} {k : Nat} {M : Int → Int → Int} {ev dl : Int} {x : List Int} (h : SprdTo N.evs.length k (M ev) dl x) (hM : DistOk N t N.evs.length M) (hk : N.evs.length ≤ k) (e0 : 0 ≤ ev) (e1 : ev < N.evs.length) : SpreadOk N t ev dl (x.set ev.toNat dl) 0 := by
  refine ⟨rfl, by simp [h.1], M, hM, fun i i0 i1 => ?_⟩
  have hl := h.1
  unfold el sprd
  rw [List.getD_eq_getElem?_getD]
  by_cases e : i = ev
  · subst e
    rw [List.getElem?_set_self (by omega), if_pos rfl]; rfl
  · rw [List.getElem?_set_ne (by omega), if_neg e]
    have := h.2 i.toNat (by omega)
    rw [if_pos (by omega), show ((i.toNat : Nat) : Int) = i by omega, List.getD_eq_getElem?_getD] at this
    exact this
theorem SpreadOk.more {N : Net} {t : List Int} {ev dl mo e f : Int} {x y : List Int} (h : SpreadOk N t ev dl x e) (h' : SpreadOk N t ev (dl + mo) y f) (hm : 0 ≤ mo) (e0 : 0 ≤ ev) (e1 : ev < N.evs.length) {i : Int} (i0 : 0 ≤ i) (i1 : i < N.evs.length) : el x i ≤ el y i ∧ el y i ≤ el x i + mo := by
  obtain ⟨M, hM, hx⟩ := h.val
  obtain ⟨M', hM', hy⟩ := h'.val
  rw [hx i i0 i1, hy i i0 i1]
  unfold sprd
  rw [dist_uniq hM' hM e0 e1 i0 i1]
  unfold base
  by_cases h1 : i = ev
  · rw [if_pos h1, if_pos h1]; omega
  · rw [if_neg h1, if_neg h1]
    by_cases h2 : M ev i = -1
    · rw [if_pos h2, if_pos h2]; omega
    · rw [if_neg h2, if_neg h2]; omega
theorem SpreadOk.rng {N : Net} {t : List Int} {ev dl e : Int} {x : List Int} (h : SpreadOk N t ev dl x e) (hd : 0 ≤ dl) (e0 : 0 ≤ ev) (e1 : ev < N.evs.length) {i : Int} (i0 : 0 ≤ i) (i1 : i < N.evs.length) : 0 ≤ el x i ∧ el x i ≤ dl := by
  obtain ⟨M, hM, hx⟩ := h.val
  rw [hx i i0 i1]
  unfold sprd base
  rcases hM.snd ev i e0 e1 i0 i1 with h3 | ⟨h3, _⟩
  · by_cases h1 : i = ev
    · rw [if_pos h1]; omega
    · rw [if_neg h1, if_pos h3]; omega
  · by_cases h1 : i = ev
    · rw [if_pos h1]; omega
    · rw [if_neg h1, if_neg (by omega)]; omega

/-- The least total of a ring, over the first events. -/
def LeastLoop (N : Net) (t : List Int) (k : Nat) (d : Int) (ok : Bool) : Prop :=
  (ok = false ∧ d = 0 ∧ ∀ i : Int, 0 ≤ i → i < k → ∀ q, ¬ Chain N t i i q) ∨ (ok = true ∧ (∃ i : Int, 0 ≤ i ∧ i < k ∧ Chain N t i i d) ∧ ∀ i : Int, 0 ≤ i → i < k → ∀ q, Chain N t i i q → d ≤ q)
theorem LeastLoop.start {N : Net} {t : List Int} : LeastLoop N t 0 0 false := .inl ⟨rfl, rfl, fun i h0 h1 => by omega⟩
theorem LeastLoop.uniq {N : Net} {t : List Int} {k : Nat} {d d' : Int} {ok ok' : Bool} (h : LeastLoop N t k d ok) (h' : LeastLoop N t k d' ok') : d = d' ∧ ok = ok' := by
  rcases h with ⟨rfl, rfl, h1⟩ | ⟨rfl, ⟨i, i0, i1, hi⟩, h1⟩
  · rcases h' with ⟨rfl, rfl, h2⟩ | ⟨rfl, ⟨j, j0, j1, hj⟩, h2⟩
    · exact ⟨rfl, rfl⟩
    · exact absurd hj (h1 j j0 j1 _)
  · rcases h' with ⟨rfl, rfl, h2⟩ | ⟨rfl, ⟨j, j0, j1, hj⟩, h2⟩
    · exact absurd hi (h2 i i0 i1 _)
    · have := h1 j j0 j1 _ hj
      have := h2 i i0 i1 _ hi
      exact ⟨by omega, rfl⟩
theorem LeastLoop.none {N : Net} {t : List Int} {k : Nat} {d : Int} {ok : Bool} (h : LeastLoop N t k d ok) (hn : ∀ q, ¬ Chain N t k k q) : LeastLoop N t (k + 1) d ok := by
  rcases h with ⟨rfl, rfl, h1⟩ | ⟨rfl, ⟨i, i0, i1, hi⟩, h1⟩
  · refine .inl ⟨rfl, rfl, fun i i0 i1 q hq => ?_⟩
    by_cases e : i = k
    · subst e; exact hn q hq
    · exact h1 i i0 (by omega) q hq
  · refine .inr ⟨rfl, ⟨i, i0, by omega, hi⟩, fun i i0 i1 q hq => ?_⟩
    by_cases e : i = k
    · subst e; exact absurd hq (hn q)
    · exact h1 i i0 (by omega) q hq
theorem LeastLoop.some {N : Net} {t : List Int} {k : Nat} {d v : Int} {ok : Bool} (h : LeastLoop N t k d ok) (hc : Chain N t k k v) (hl : ∀ q, Chain N t k k q → v ≤ q) : LeastLoop N t (k + 1) (if ok = false ∨ v < d then v else d) true := by
  rcases h with ⟨rfl, rfl, h1⟩ | ⟨rfl, ⟨i, i0, i1, hi⟩, h1⟩
  · rw [if_pos (.inl rfl)]
    refine .inr ⟨rfl, ⟨k, by omega, by omega, hc⟩, fun i i0 i1 q hq => ?_⟩
    by_cases e : i = k
    · subst e; exact hl q hq
    · exact absurd hq (h1 i i0 (by omega) q)
  · by_cases hv : v < d
    · rw [if_pos (.inr hv)]
      refine .inr ⟨rfl, ⟨k, by omega, by omega, hc⟩, fun i i0 i1 q hq => ?_⟩
      by_cases e : i = k
      · subst e; exact hl q hq
      · have := h1 i i0 (by omega) q hq; omega
    · rw [if_neg (by simp [hv])]
      refine .inr ⟨rfl, ⟨i, i0, by omega, hi⟩, fun i i0 i1 q hq => ?_⟩
      by_cases e : i = k
      · subst e; have := hl q hq; omega
      · exact h1 i i0 (by omega) q hq
/-- The same, with -1 for none. -/
def LoopM (N : Net) (t : List Int) (k : Nat) (m : Int) : Prop := LeastLoop N t k (if m = -1 then 0 else m) (decide (m ≠ -1)) ∧ -1 ≤ m
theorem LoopM.none {N : Net} {t : List Int} {k : Nat} {m : Int} {M : Int → Int → Int} (h : LoopM N t k m) (hM : DistOk N t N.evs.length M) (hk : k < N.evs.length) (he : M k k = -1) : LoopM N t (k + 1) m :=
  ⟨h.1.none fun q hq => (hM.least k k q (by omega) (by omega) hq).1 he, h.2⟩
theorem LoopM.some {N : Net} {t : List Int} {k : Nat} {m : Int} {M : Int → Int → Int} (h : LoopM N t k m) (hM : DistOk N t N.evs.length M) (hk : k < N.evs.length) (he : M k k ≠ -1) : LoopM N t (k + 1) (lessS m (M k k)) := by
  rcases hM.snd k k (by omega) (by omega) (by omega) (by omega) with h1 | ⟨h1, h2⟩
  · exact absurd h1 he
  · have := h.1.some h2 fun q hq => (hM.least k k q (by omega) (by omega) hq).2
    have hg := h.2
    unfold LoopM lessS
    by_cases e : m = -1
    · subst e
      rw [if_pos (.inl (by simp))] at this
      rw [if_pos rfl]
      refine ⟨?_, by omega⟩
      rw [if_neg he, show decide (M k k ≠ -1) = true by simp [he]]; exact this
    · rw [if_neg e]
      rw [if_neg e] at this
      have h3 : min m (M k k) ≠ -1 := by omega
      rw [if_neg h3, show decide (min m (M k k) ≠ -1) = true by simp [h3]]
      refine ⟨?_, by omega⟩
      have e2 : (if decide (m ≠ -1) = false ∨ M k k < m then M k k else m) = min m (M k k) := by
        by_cases h4 : M k k < m
        · rw [if_pos (.inr h4)]; omega
        · rw [if_neg (by simp [e, h4])]; omega
      rw [e2] at this; exact this
def LoopRes (N : Net) (t : List Int) (d : Int) (ok : Bool) (e : Int) : Prop :=
  if feas N t = false then d = 0 ∧ ok = false ∧ e = 1 else e = 0 ∧ LeastLoop N t N.evs.length d ok
def CushRes (N : Net) (t : List Int) (a d e : Int) : Prop :=
  if feas N t = false then d = 0 ∧ e = 1 else if ¬ (0 ≤ a ∧ a < N.acts.length) then d = 0 ∧ e = 4 else d = slackA N t (el N.acts a) ∧ e = 0

set_option maxRecDepth 100000 in
theorem robust_Spread_ok (N : Net) (A : NetA) (lo hi : Nat) (t : List Int) (at_ : Option Addr) (ct : Nat) (lt ht : Nat) (ev dl : Int) (w : World) (hN : NetIn lo hi w N A) (hT : Ints lt ht w at_ t)  : Cal Try.prog 17 [netV N A, .slice at_ t.length ct, .int .i64 ev, .int .i64 dl] w (fun v w' => ∃ ad c x e, v = .tuple #[.slice ad x.length c, .int .i64 e] ∧ SpreadRes N t ev dl x e ∧ Ints w.heap.size w'.heap.size w' ad x ∧ Ext w w') := by
  replace hN := hN.full
  replace hT := Ints.full hT
  have hE : Out 0 0 w w := Out.refl _ _ w
  refine enter Try.func17 rfl Try.ntmps17 rfl ?_
  refine wp_seq ?_
  refine rg ?_
  refine sd (d_boxA rfl ?_)
  intro bl4 w1 hbbl4 hs3 ho2 hbl4
  have hz5 := ho2.size
  replace hN := hN.ext ho2
  replace hT := hT.ext ho2
  replace hE := hE.step ho2 (.inl (Nat.le_refl _))
  refine st (asS rfl) ?_
  refine st (asI rfl) ?_
  refine rg_end ?_
  refine n_then ?_
  refine wp_seq ?_
  refine wp_seq ?_
  refine rg ?_
  refine st (y_lbN hbl4 agg26 rfl) ?_
  refine st (mvS rfl) ?_
  refine sc cl26 (network_Feasible_ok N A _ _ t _ _ _ _ _ hN hT) rfl ?_
  rintro v10 w6 ⟨rfl, ho7⟩
  have hz11 := ho7.size
  replace hN := hN.ext ho7
  replace hT := hT.ext ho7
  replace hE := hE.step ho7 (.inl (Nat.le_refl _))
  replace hbl4 := hbl4.ext ho7
  refine st (y_not rfl) ?_
  refine rg_end ?_
  refine n_then ?_
  refine cnd rfl (fun hc0 => ?_) (fun hc0 => ?_)
  ·
    try simp only [decide_eq_true_eq, decide_eq_false_iff_not, Bool.not_eq_true', Bool.not_eq_false', Bool.and_eq_true, Bool.or_eq_true, Bool.or_eq_false_iff, Bool.cond_true_right, Bool.cond_false_right, Bool.cond_true_left, Bool.cond_false_left, ne_eq, Decidable.not_not, bne_iff_ne, beq_iff_eq, beq_eq_false_iff_ne, Bool.not_true, Bool.not_false] at hc0
    refine wp_seq ?_
    refine rg ?_
    refine st (asS rfl) ?_
    refine st (asI rfl) ?_
    refine rg_end ?_
    refine n_then ?_
    refine wp_ret ?_
    refine r_then (ret2 (v := (.slice _ _ _)) (v' := (.int .i64 _)) Try.results17 rfl rfl ?_)
    exact ⟨none, 0, [], _, rfl, by unfold SpreadRes; rw [if_pos hc0]; exact ⟨rfl, rfl⟩, ⟨fun h => absurd rfl h, fun i x hx => by simp at hx⟩, hE⟩
  ·
    try simp only [decide_eq_true_eq, decide_eq_false_iff_not, Bool.not_eq_true', Bool.not_eq_false', Bool.and_eq_true, Bool.or_eq_true, Bool.or_eq_false_iff, Bool.cond_true_right, Bool.cond_false_right, Bool.cond_true_left, Bool.cond_false_left, ne_eq, Decidable.not_not, bne_iff_ne, beq_iff_eq, beq_eq_false_iff_ne, Bool.not_true, Bool.not_false] at hc0
    have hg := feas_good hc0
    have hnev := hg.ok.ev
    have htl := hg.len
    refine wp_skip ?_
    refine n_then ?_
    refine wp_seq ?_
    refine cut (γ := Unit) [17, 18, 19, 20, 21, 22, 23, 24, 25, 26, 27, 28, 29, 30, 31, 32, 33] (fun _ => [(33, .bool (decide (¬ (0 ≤ ev ∧ ev < N.evs.length ∧ 0 ≤ dl ∧ dl ≤ 65536))))]) (fun _ w_ => Ext w6 w_ ∧ True) ?_ ?_
    ·
      have hcut := Out.refl 0 0 w6
      refine rg ?_
      refine st (mvI rfl) ?_
      refine st (y_lss rfl rfl) ?_
      refine st (mvB rfl) ?_
      refine gspL 19 rfl (fun hg12 => ?_) (fun hg12 => ?_)
      ·
        have hg12n := hg12; try simp only [decide_eq_true_eq, decide_eq_false_iff_not, Bool.not_eq_true', Bool.not_eq_false', Bool.and_eq_true, Bool.or_eq_true, Bool.or_eq_false_iff, Bool.cond_true_right, Bool.cond_false_right, Bool.cond_true_left, Bool.cond_false_left, ne_eq, Decidable.not_not, bne_iff_ne, beq_iff_eq, beq_eq_false_iff_ne, Bool.not_true, Bool.not_false] at hg12n
        refine sts rfl rfl hg12 ?_
        refine sts rfl rfl hg12 ?_
        refine sts rfl rfl hg12 ?_
        refine sts rfl rfl hg12 ?_
        refine sts rfl rfl hg12 ?_
        refine st (y_pickT rfl hg12 (v := .bool _) rfl) ?_
        refine st (mvB rfl) ?_
        refine sts rfl rfl rfl ?_
        refine sts rfl rfl rfl ?_
        refine st (y_pickT rfl rfl (v := .bool _) rfl) ?_
        refine st (mvB rfl) ?_
        refine sts rfl rfl rfl ?_
        refine sts rfl rfl rfl ?_
        refine st (y_pickT rfl rfl (v := .bool _) rfl) ?_
        refine rg_end ?_
        exact n_then ⟨(), _, rfl, same_lk rfl (same_rfl), ⟨vb (by simp only [decide_eq_true_eq, decide_eq_false_iff_not, Bool.not_eq_true', Bool.not_eq_eq_eq_not, Bool.not_true, Bool.false_eq_true, false_iff, true_iff, iff_true, iff_false]; omega), trivial⟩, ⟨hcut, trivial⟩⟩
      ·
        have hg12n := hg12; try simp only [decide_eq_true_eq, decide_eq_false_iff_not, Bool.not_eq_true', Bool.not_eq_false', Bool.and_eq_true, Bool.or_eq_true, Bool.or_eq_false_iff, Bool.cond_true_right, Bool.cond_false_right, Bool.cond_true_left, Bool.cond_false_left, ne_eq, Decidable.not_not, bne_iff_ne, beq_iff_eq, beq_eq_false_iff_ne, Bool.not_true, Bool.not_false] at hg12n
        refine stg rfl rfl hg12 (mvI rfl) ?_
        refine stg rfl rfl hg12 (y_fld fld26_1 rfl) ?_
        refine stg rfl rfl hg12 (y_lb hbl4 na23 rfl rfl) ?_
        refine stg rfl rfl hg12 (y_len Try.underlying23 rfl) ?_
        refine stg rfl rfl hg12 (y_geq rfl rfl) ?_
        refine st (y_pickF rfl hg12 (v := .bool _) rfl) ?_
        refine st (mvB rfl) ?_
        refine gspL 26 rfl (fun hg13 => ?_) (fun hg13 => ?_)
        ·
          have hg13n := hg13; try simp only [decide_eq_true_eq, decide_eq_false_iff_not, Bool.not_eq_true', Bool.not_eq_false', Bool.and_eq_true, Bool.or_eq_true, Bool.or_eq_false_iff, Bool.cond_true_right, Bool.cond_false_right, Bool.cond_true_left, Bool.cond_false_left, ne_eq, Decidable.not_not, bne_iff_ne, beq_iff_eq, beq_eq_false_iff_ne, Bool.not_true, Bool.not_false] at hg13n
          refine sts rfl rfl hg13 ?_
          refine sts rfl rfl hg13 ?_
          refine st (y_pickT rfl hg13 (v := .bool _) rfl) ?_
          refine st (mvB rfl) ?_
          refine sts rfl rfl rfl ?_
          refine sts rfl rfl rfl ?_
          refine st (y_pickT rfl rfl (v := .bool _) rfl) ?_
          refine rg_end ?_
          exact n_then ⟨(), _, rfl, same_lk rfl (same_rfl), ⟨vb (by simp only [decide_eq_true_eq, decide_eq_false_iff_not, Bool.not_eq_true', Bool.not_eq_eq_eq_not, Bool.not_true, Bool.false_eq_true, false_iff, true_iff, iff_true, iff_false]; omega), trivial⟩, ⟨hcut, trivial⟩⟩
        ·
          have hg13n := hg13; try simp only [decide_eq_true_eq, decide_eq_false_iff_not, Bool.not_eq_true', Bool.not_eq_false', Bool.and_eq_true, Bool.or_eq_true, Bool.or_eq_false_iff, Bool.cond_true_right, Bool.cond_false_right, Bool.cond_true_left, Bool.cond_false_left, ne_eq, Decidable.not_not, bne_iff_ne, beq_iff_eq, beq_eq_false_iff_ne, Bool.not_true, Bool.not_false] at hg13n
          refine stg rfl rfl hg13 (mvI rfl) ?_
          refine stg rfl rfl hg13 (y_lss rfl rfl) ?_
          refine st (y_pickF rfl hg13 (v := .bool _) rfl) ?_
          refine st (mvB rfl) ?_
          refine gspL 30 rfl (fun hg14 => ?_) (fun hg14 => ?_)
          ·
            have hg14n := hg14; try simp only [decide_eq_true_eq, decide_eq_false_iff_not, Bool.not_eq_true', Bool.not_eq_false', Bool.and_eq_true, Bool.or_eq_true, Bool.or_eq_false_iff, Bool.cond_true_right, Bool.cond_false_right, Bool.cond_true_left, Bool.cond_false_left, ne_eq, Decidable.not_not, bne_iff_ne, beq_iff_eq, beq_eq_false_iff_ne, Bool.not_true, Bool.not_false] at hg14n
            refine sts rfl rfl hg14 ?_
            refine sts rfl rfl hg14 ?_
            refine st (y_pickT rfl hg14 (v := .bool _) rfl) ?_
            refine rg_end ?_
            exact n_then ⟨(), _, rfl, same_lk rfl (same_rfl), ⟨vb (by simp only [decide_eq_true_eq, decide_eq_false_iff_not, Bool.not_eq_true', Bool.not_eq_eq_eq_not, Bool.not_true, Bool.false_eq_true, false_iff, true_iff, iff_true, iff_false]; omega), trivial⟩, ⟨hcut, trivial⟩⟩
          ·
            have hg14n := hg14; try simp only [decide_eq_true_eq, decide_eq_false_iff_not, Bool.not_eq_true', Bool.not_eq_false', Bool.and_eq_true, Bool.or_eq_true, Bool.or_eq_false_iff, Bool.cond_true_right, Bool.cond_false_right, Bool.cond_true_left, Bool.cond_false_left, ne_eq, Decidable.not_not, bne_iff_ne, beq_iff_eq, beq_eq_false_iff_ne, Bool.not_true, Bool.not_false] at hg14n
            refine stg rfl rfl hg14 (mvI rfl) ?_
            refine stg rfl rfl hg14 (y_gtr rfl rfl) ?_
            refine st (y_pickF rfl hg14 (v := .bool _) rfl) ?_
            refine rg_end ?_
            exact n_then ⟨(), _, rfl, same_lk rfl (same_rfl), ⟨vb (by simp only [decide_eq_true_eq, decide_eq_false_iff_not, Bool.not_eq_true', Bool.not_eq_eq_eq_not, Bool.not_true, Bool.false_eq_true, false_iff, true_iff, iff_true, iff_false]; omega), trivial⟩, ⟨hcut, trivial⟩⟩
    ·
      rintro _ hav_ w15 ⟨ho16, _⟩
      have hz17 := ho16.size
      replace hN := hN.ext ho16
      replace hT := hT.ext ho16
      replace hE := hE.step ho16 (.inl (Nat.le_refl _))
      replace hbl4 := hbl4.ext ho16
      refine cnd rfl (fun hc1 => ?_) (fun hc1 => ?_)
      ·
        try simp only [decide_eq_true_eq, decide_eq_false_iff_not, Bool.not_eq_true', Bool.not_eq_false', Bool.and_eq_true, Bool.or_eq_true, Bool.or_eq_false_iff, Bool.cond_true_right, Bool.cond_false_right, Bool.cond_true_left, Bool.cond_false_left, ne_eq, Decidable.not_not, bne_iff_ne, beq_iff_eq, beq_eq_false_iff_ne, Bool.not_true, Bool.not_false] at hc1
        refine wp_seq ?_
        refine rg ?_
        refine st (asS rfl) ?_
        refine st (asI rfl) ?_
        refine rg_end ?_
        refine n_then ?_
        refine wp_ret ?_
        refine r_then (ret2 (v := (.slice _ _ _)) (v' := (.int .i64 _)) Try.results17 rfl rfl ?_)
        exact ⟨none, 0, [], _, rfl, by unfold SpreadRes; rw [if_neg (by simp [hc0]), if_pos hc1]; exact ⟨rfl, rfl⟩, ⟨fun h => absurd rfl h, fun i x hx => by simp at hx⟩, hE⟩
      ·
        try simp only [decide_eq_true_eq, decide_eq_false_iff_not, Bool.not_eq_true', Bool.not_eq_false', Bool.and_eq_true, Bool.or_eq_true, Bool.or_eq_false_iff, Bool.cond_true_right, Bool.cond_false_right, Bool.cond_true_left, Bool.cond_false_left, ne_eq, Decidable.not_not, bne_iff_ne, beq_iff_eq, beq_eq_false_iff_ne, Bool.not_true, Bool.not_false] at hc1
        refine wp_skip ?_
        refine n_then ?_
        refine wp_seq ?_
        refine rg ?_
        refine st (y_fld fld26_1 rfl) ?_
        refine st (y_lb hbl4 na23 rfl rfl) ?_
        refine st (y_len Try.underlying23 rfl) ?_
        refine sd (d_make (lo := w.heap.size) (enc := encI) (e0 := (0 : Int)) sl22 info3 (fun _ => rfl) rfl rfl rfl (by omega) (by unfold maxLen; omega) (by omega) ?_)
        intro bx w18 hbbx hs20 ho19 hx
        have hz22 := ho19.size
        replace hN := hN.ext ho19
        replace hT := hT.ext ho19
        replace hE := hE.step ho19 (.inl (Nat.le_refl _))
        replace hbl4 := hbl4.ext ho19
        refine st (asS rfl) ?_
        refine rg_end ?_
        refine n_then ?_
        refine wp_seq ?_
        refine wp_seq ?_
        refine rg ?_
        refine st (y_lbN hbl4 agg26 rfl) ?_
        refine st (mvS rfl) ?_
        refine sc cl28 (robust_distances_ok N A _ _ t _ _ _ _ _ hN hT hg) rfl ?_
        rintro v27 w23 ⟨D, M, rfl, hD0, hD1, hM, hdist, ho24⟩
        have hz28 := ho24.size
        replace hN := hN.ext ho24
        replace hT := hT.ext ho24
        replace hE := hE.step ho24 (.inl (Nat.le_refl _))
        replace hbl4 := hbl4.ext ho24
        replace hx := hx.ext ho24
        refine st (mvI rfl) ?_
        refine st (y_mi hM sl54 rfl rfl (by omega) (by omega)) ?_
        refine st (y_mrow hM na22 rfl (by omega) (by omega)) ?_
        refine st (y_len Try.underlying22 rfl) ?_
        refine st (mvI rfl) ?_
        refine rg_end ?_
        refine n_then ?_
        refine wp_block ?_
        have hx0 := hx.rng
        refine lp (γ := Nat × List Int) [11, 12, 45, 46, 47, 48, 49, 50, 51, 52, 53, 54, 55, 56, 57, 58, 59] (fun ⟨k, x⟩ => [(45, .int .i64 (k : Int))]) (fun ⟨k, x⟩ w_ => Out bx (bx + 1) w23 w_ ∧ (k : Int) ≤ N.evs.length ∧ SprdTo N.evs.length k (mat M ev) dl x ∧ Ow 3 encI 1 w.heap.size (bx + 1) w_ (some ⟨bx, 0, none⟩) N.evs.length x) (fun ⟨k, x⟩ => N.evs.length - k) (0, List.replicate N.evs.length 0) ⟨rfl, trivial⟩ ⟨Out.refl _ _ _, by omega, SprdTo.start, hx⟩ ?_
        rintro ⟨k, x⟩ hav_ w29 ⟨ho30, hk, hsp, hx⟩
        have hlp0 := ho30
        have hz31 := ho30.size
        replace hN := hN.out ho30 (by first | omega | (simp only [blk_some, hi1_some] at *; omega))
        replace hT := hT.out ho30 (by first | omega | (simp only [blk_some, hi1_some] at *; omega))
        replace hE := hE.step ho30 (by first | omega | (simp only [blk_some, hi1_some] at *; omega))
        replace hbl4 := hbl4.out ho30 (by first | omega | (simp only [blk_some, hi1_some] at *; omega))
        replace hM := hM.out ho30 (by first | omega | (simp only [blk_some, hi1_some] at *; omega))
        refine wp_seq ?_
        refine rg ?_
        refine st (y_lss rfl rfl) ?_
        refine rg_end ?_
        refine n_then ?_
        refine wp_seq ?_
        refine cnd rfl (fun hc2 => ?_) (fun hc2 => ?_)
        ·
          try simp only [decide_eq_true_eq, decide_eq_false_iff_not, Bool.not_eq_true', Bool.not_eq_false', Bool.and_eq_true, Bool.or_eq_true, Bool.or_eq_false_iff, Bool.cond_true_right, Bool.cond_false_right, Bool.cond_true_left, Bool.cond_false_left, ne_eq, Decidable.not_not, bne_iff_ne, beq_iff_eq, beq_eq_false_iff_ne, Bool.not_true, Bool.not_false] at hc2
          have hbg := hdist.big ev k (by omega) (by omega) (by omega) (by omega)
          have hsn := hdist.snd ev k (by omega) (by omega) (by omega) (by omega)
          refine wp_skip ?_
          refine n_then ?_
          refine wp_seq ?_
          refine wp_block ?_
          refine wp_seq ?_
          refine rg ?_
          refine st (mvI rfl) ?_
          refine st (y_mri hM sl22 rfl rfl (by omega) (by omega) (by omega) (by omega)) ?_
          refine st (y_mel hM na3 rfl (by omega) (by omega) (by omega) (by omega)) ?_
          refine st (asI rfl) ?_
          refine st (asI rfl) ?_
          refine rg_end ?_
          refine n_then ?_
          refine wp_seq ?_
          refine rg ?_
          refine st (mvI rfl) ?_
          refine st (y_neq rfl rfl) ?_
          refine rg_end ?_
          refine n_then ?_
          refine cnd rfl (fun hc3 => ?_) (fun hc3 => ?_)
          ·
            try simp only [decide_eq_true_eq, decide_eq_false_iff_not, Bool.not_eq_true', Bool.not_eq_false', Bool.and_eq_true, Bool.or_eq_true, Bool.or_eq_false_iff, Bool.cond_true_right, Bool.cond_false_right, Bool.cond_true_left, Bool.cond_false_left, ne_eq, Decidable.not_not, bne_iff_ne, beq_iff_eq, beq_eq_false_iff_ne, Bool.not_true, Bool.not_false] at hc3
            refine rg ?_
            refine st (mvS rfl) ?_
            refine st (mvI rfl) ?_
            refine st (mvI rfl) ?_
            refine st (mvI rfl) ?_
            refine st (y_sub rfl rfl (by omega)) ?_
            refine st (y_max rfl rfl) ?_
            refine st (y_ix hx.sl sl22 rfl (hsp.1.symm) rfl (by omega) (by have := hsp.1; omega)) ?_
            refine sd0 (d_se (j := 0)  hx sz3 rfl rfl rfl (by omega) (by have := hsp.1; omega) (Nat.le_of_ble_eq_true rfl) rfl ?_)
            intro w32 hs34 ho33 hx'
            have hrhx := hx.rng
            clear hx; have hx := hx'; clear hx'
            have hz35 := ho33.size
            replace hN := hN.out ho33 (by first | omega | (simp only [blk_some, hi1_some] at *; omega))
            replace hT := hT.out ho33 (by first | omega | (simp only [blk_some, hi1_some] at *; omega))
            replace hE := hE.step ho33 (by first | omega | (simp only [blk_some, hi1_some] at *; omega))
            replace hbl4 := hbl4.out ho33 (by first | omega | (simp only [blk_some, hi1_some] at *; omega))
            replace hM := hM.out ho33 (by first | omega | (simp only [blk_some, hi1_some] at *; omega))
            replace hlp0 := hlp0.step ho33 (by first | omega | (simp only [blk_some, hi1_some] at *; omega))
            have hsp := hsp.set (by omega) hc3
            refine rg_end ?_
            refine n_blk ?_
            refine n_then ?_
            refine rg ?_
            refine st (y_add rfl rfl (by omega)) ?_
            refine st (mvI rfl) ?_
            refine rg_end ?_
            exact n_then ⟨(k + 1, _), _, rfl, same_lk rfl (same_h0), ⟨rfl, trivial⟩, ⟨hlp0, by omega, hsp, hx⟩, by first | omega | (dsimp only; omega)⟩
          ·
            try simp only [decide_eq_true_eq, decide_eq_false_iff_not, Bool.not_eq_true', Bool.not_eq_false', Bool.and_eq_true, Bool.or_eq_true, Bool.or_eq_false_iff, Bool.cond_true_right, Bool.cond_false_right, Bool.cond_true_left, Bool.cond_false_left, ne_eq, Decidable.not_not, bne_iff_ne, beq_iff_eq, beq_eq_false_iff_ne, Bool.not_true, Bool.not_false] at hc3
            have hsp := hsp.skip hc3
            refine wp_skip ?_
            refine n_blk ?_
            refine n_then ?_
            refine rg ?_
            refine st (y_add rfl rfl (by omega)) ?_
            refine st (mvI rfl) ?_
            refine rg_end ?_
            exact n_then ⟨(k + 1, _), _, rfl, same_lk rfl (same_h0), ⟨rfl, trivial⟩, ⟨hlp0, by omega, hsp, hx⟩, by first | omega | (dsimp only; omega)⟩
        ·
          try simp only [decide_eq_true_eq, decide_eq_false_iff_not, Bool.not_eq_true', Bool.not_eq_false', Bool.and_eq_true, Bool.or_eq_true, Bool.or_eq_false_iff, Bool.cond_true_right, Bool.cond_false_right, Bool.cond_true_left, Bool.cond_false_left, ne_eq, Decidable.not_not, bne_iff_ne, beq_iff_eq, beq_eq_false_iff_ne, Bool.not_true, Bool.not_false] at hc2
          refine wp_exit ?_
          refine e_then (e_then (e_blk (?_)))
          refine n_then ?_
          refine wp_seq ?_
          refine rg ?_
          refine st (mvS rfl) ?_
          refine st (mvI rfl) ?_
          refine st (mvI rfl) ?_
          refine st (y_ix hx.sl sl22 rfl (hsp.1.symm) rfl (by omega) (by have := hsp.1; omega)) ?_
          refine sd0 (d_se (j := 0)  hx sz3 rfl rfl rfl (by omega) (by have := hsp.1; omega) (Nat.le_of_ble_eq_true rfl) rfl ?_)
          intro w36 hs38 ho37 hx'
          have hrhx := hx.rng
          clear hx; have hx := hx'; clear hx'
          have hz39 := ho37.size
          replace hN := hN.out ho37 (by first | omega | (simp only [blk_some, hi1_some] at *; omega))
          replace hT := hT.out ho37 (by first | omega | (simp only [blk_some, hi1_some] at *; omega))
          replace hE := hE.step ho37 (by first | omega | (simp only [blk_some, hi1_some] at *; omega))
          replace hbl4 := hbl4.out ho37 (by first | omega | (simp only [blk_some, hi1_some] at *; omega))
          replace hM := hM.out ho37 (by first | omega | (simp only [blk_some, hi1_some] at *; omega))
          refine rg_end ?_
          refine n_then ?_
          refine wp_seq ?_
          refine rg ?_
          refine st (mvS rfl) ?_
          refine st (asS rfl) ?_
          refine st (asI rfl) ?_
          refine rg_end ?_
          refine n_then ?_
          refine wp_ret ?_
          refine ret2 (v := (.slice _ _ _)) (v' := (.int .i64 _)) Try.results17 rfl rfl ?_
          exact ⟨_, _, x.set ev.toNat dl, _, by rw [List.length_set, hsp.1], by unfold SpreadRes; rw [if_neg (by simp [hc0]), if_neg (not_not_intro hc1)]; exact hsp.done hdist (by omega) hc1.1 hc1.2.1, Sl.wide hx.sl (Nat.le_refl _) (by omega), hE⟩

set_option maxRecDepth 100000 in
theorem robust_Loop_ok (N : Net) (A : NetA) (lo hi : Nat) (t : List Int) (at_ : Option Addr) (ct : Nat) (lt ht : Nat) (w : World) (hN : NetIn lo hi w N A) (hT : Ints lt ht w at_ t)  : Cal Try.prog 16 [netV N A, .slice at_ t.length ct] w (fun v w' => ∃ d ok e, v = .tuple #[.int .i64 d, .bool ok, .int .i64 e] ∧  LoopRes N t d ok e ∧ Ext w w') := by
  replace hN := hN.full
  replace hT := Ints.full hT
  have hE : Out 0 0 w w := Out.refl _ _ w
  refine enter Try.func16 rfl Try.ntmps16 rfl ?_
  refine wp_seq ?_
  refine rg ?_
  refine sd (d_boxA rfl ?_)
  intro bl4 w1 hbbl4 hs3 ho2 hbl4
  have hz5 := ho2.size
  replace hN := hN.ext ho2
  replace hT := hT.ext ho2
  replace hE := hE.step ho2 (.inl (Nat.le_refl _))
  refine st (asI rfl) ?_
  refine st (asB rfl) ?_
  refine st (asI rfl) ?_
  refine rg_end ?_
  refine n_then ?_
  refine wp_seq ?_
  refine wp_seq ?_
  refine rg ?_
  refine st (y_lbN hbl4 agg26 rfl) ?_
  refine st (mvS rfl) ?_
  refine sc cl26 (network_Feasible_ok N A _ _ t _ _ _ _ _ hN hT) rfl ?_
  rintro v10 w6 ⟨rfl, ho7⟩
  have hz11 := ho7.size
  replace hN := hN.ext ho7
  replace hT := hT.ext ho7
  replace hE := hE.step ho7 (.inl (Nat.le_refl _))
  replace hbl4 := hbl4.ext ho7
  refine st (y_not rfl) ?_
  refine rg_end ?_
  refine n_then ?_
  refine cnd rfl (fun hc0 => ?_) (fun hc0 => ?_)
  ·
    try simp only [decide_eq_true_eq, decide_eq_false_iff_not, Bool.not_eq_true', Bool.not_eq_false', Bool.and_eq_true, Bool.or_eq_true, Bool.or_eq_false_iff, Bool.cond_true_right, Bool.cond_false_right, Bool.cond_true_left, Bool.cond_false_left, ne_eq, Decidable.not_not, bne_iff_ne, beq_iff_eq, beq_eq_false_iff_ne, Bool.not_true, Bool.not_false] at hc0
    refine wp_seq ?_
    refine rg ?_
    refine st (asI rfl) ?_
    refine st (asB rfl) ?_
    refine st (asI rfl) ?_
    refine rg_end ?_
    refine n_then ?_
    refine wp_ret ?_
    refine r_then (ret3 (v := (.int .i64 _)) (v' := (.bool _)) (v'' := (.int .i64 _)) Try.results16 rfl rfl rfl ?_)
    exact ⟨_, _, _, rfl, by unfold LoopRes; rw [if_pos hc0]; exact ⟨rfl, rfl, rfl⟩, hE⟩
  ·
    try simp only [decide_eq_true_eq, decide_eq_false_iff_not, Bool.not_eq_true', Bool.not_eq_false', Bool.and_eq_true, Bool.or_eq_true, Bool.or_eq_false_iff, Bool.cond_true_right, Bool.cond_false_right, Bool.cond_true_left, Bool.cond_false_left, ne_eq, Decidable.not_not, bne_iff_ne, beq_iff_eq, beq_eq_false_iff_ne, Bool.not_true, Bool.not_false] at hc0
    have hg := feas_good hc0
    have hnev := hg.ok.ev
    refine wp_skip ?_
    refine n_then ?_
    refine wp_seq ?_
    refine rg ?_
    refine st (asI rfl) ?_
    refine rg_end ?_
    refine n_then ?_
    refine wp_seq ?_
    refine wp_seq ?_
    refine rg ?_
    refine st (y_lbN hbl4 agg26 rfl) ?_
    refine st (mvS rfl) ?_
    refine sc cl28 (robust_distances_ok N A _ _ t _ _ _ _ _ hN hT hg) rfl ?_
    rintro v16 w12 ⟨D, M, rfl, hD0, hD1, hM, hdist, ho13⟩
    have hz17 := ho13.size
    replace hN := hN.ext ho13
    replace hT := hT.ext ho13
    replace hE := hE.step ho13 (.inl (Nat.le_refl _))
    replace hbl4 := hbl4.ext ho13
    refine st (y_len Try.underlying54 rfl) ?_
    refine st (mvI rfl) ?_
    refine rg_end ?_
    refine n_then ?_
    refine wp_block ?_
    refine lp (γ := Nat × Int) [7, 8, 9, 18, 19, 20, 21, 22, 23, 24, 25, 26, 27, 28, 29, 30, 31, 32, 33, 34] (fun ⟨k, m⟩ => [(18, .int .i64 (k : Int)), (7, .int .i64 m)]) (fun ⟨k, m⟩ w_ => Ext w12 w_ ∧ (k : Int) ≤ N.evs.length ∧ LoopM N t k m) (fun ⟨k, m⟩ => N.evs.length - k) (0, -1) ⟨rfl, rfl, trivial⟩ ⟨Out.refl _ _ _, by omega, LeastLoop.start, by omega⟩ ?_
    rintro ⟨k, m⟩ hav_ w18 ⟨ho19, hk, hlm⟩
    have hlp0 := ho19
    have hz20 := ho19.size
    replace hN := hN.ext ho19
    replace hT := hT.ext ho19
    replace hE := hE.step ho19 (.inl (Nat.le_refl _))
    replace hbl4 := hbl4.ext ho19
    replace hM := hM.ext ho19
    refine wp_seq ?_
    refine rg ?_
    refine st (y_lss rfl rfl) ?_
    refine rg_end ?_
    refine n_then ?_
    refine wp_seq ?_
    refine cnd rfl (fun hc1 => ?_) (fun hc1 => ?_)
    ·
      try simp only [decide_eq_true_eq, decide_eq_false_iff_not, Bool.not_eq_true', Bool.not_eq_false', Bool.and_eq_true, Bool.or_eq_true, Bool.or_eq_false_iff, Bool.cond_true_right, Bool.cond_false_right, Bool.cond_true_left, Bool.cond_false_left, ne_eq, Decidable.not_not, bne_iff_ne, beq_iff_eq, beq_eq_false_iff_ne, Bool.not_true, Bool.not_false] at hc1
      refine wp_skip ?_
      refine n_then ?_
      refine wp_seq ?_
      refine wp_block ?_
      refine wp_seq ?_
      refine rg ?_
      refine st (mvI rfl) ?_
      refine st (y_mi hM sl54 rfl rfl (by omega) (by omega)) ?_
      refine st (y_mrow hM na22 rfl (by omega) (by omega)) ?_
      refine st (asI rfl) ?_
      refine st (asS rfl) ?_
      refine rg_end ?_
      refine n_then ?_
      refine wp_seq ?_
      refine rg ?_
      refine st (mvS rfl) ?_
      refine st (mvI rfl) ?_
      refine st (y_mri hM sl22 rfl rfl (by omega) (by omega) (by omega) (by omega)) ?_
      refine st (y_mel hM na3 rfl (by omega) (by omega) (by omega) (by omega)) ?_
      refine st (y_neq rfl rfl) ?_
      refine rg_end ?_
      refine n_then ?_
      refine cnd rfl (fun hc2 => ?_) (fun hc2 => ?_)
      ·
        try simp only [decide_eq_true_eq, decide_eq_false_iff_not, Bool.not_eq_true', Bool.not_eq_false', Bool.and_eq_true, Bool.or_eq_true, Bool.or_eq_false_iff, Bool.cond_true_right, Bool.cond_false_right, Bool.cond_true_left, Bool.cond_false_left, ne_eq, Decidable.not_not, bne_iff_ne, beq_iff_eq, beq_eq_false_iff_ne, Bool.not_true, Bool.not_false] at hc2
        refine rg ?_
        refine st (mvI rfl) ?_
        refine st (mvS rfl) ?_
        refine st (mvI rfl) ?_
        refine st (y_mri hM sl22 rfl rfl (by omega) (by omega) (by omega) (by omega)) ?_
        refine st (y_mel hM na3 rfl (by omega) (by omega) (by omega) (by omega)) ?_
        refine sc cl29 (robust_less_ok _ _ _) rfl ?_
        rintro v25 w21 ⟨rfl, ho22⟩
        have hz26 := ho22.size
        replace hN := hN.ext ho22
        replace hT := hT.ext ho22
        replace hE := hE.step ho22 (.inl (Nat.le_refl _))
        replace hbl4 := hbl4.ext ho22
        replace hM := hM.ext ho22
        replace hlp0 := hlp0.step ho22 (.inl (Nat.le_refl _))
        refine st (asI rfl) ?_
        have hlm := hlm.some hdist (by omega) hc2
        refine rg_end ?_
        refine n_blk ?_
        refine n_then ?_
        refine rg ?_
        refine st (y_add rfl rfl (by omega)) ?_
        refine st (mvI rfl) ?_
        refine rg_end ?_
        exact n_then ⟨(k + 1, _), _, rfl, same_lk rfl (same_h0), ⟨rfl, rfl, trivial⟩, ⟨hlp0, by omega, hlm⟩, by first | omega | (dsimp only; omega)⟩
      ·
        try simp only [decide_eq_true_eq, decide_eq_false_iff_not, Bool.not_eq_true', Bool.not_eq_false', Bool.and_eq_true, Bool.or_eq_true, Bool.or_eq_false_iff, Bool.cond_true_right, Bool.cond_false_right, Bool.cond_true_left, Bool.cond_false_left, ne_eq, Decidable.not_not, bne_iff_ne, beq_iff_eq, beq_eq_false_iff_ne, Bool.not_true, Bool.not_false] at hc2
        have hlm := hlm.none hdist (by omega) hc2
        refine wp_skip ?_
        refine n_blk ?_
        refine n_then ?_
        refine rg ?_
        refine st (y_add rfl rfl (by omega)) ?_
        refine st (mvI rfl) ?_
        refine rg_end ?_
        exact n_then ⟨(k + 1, _), _, rfl, same_lk rfl (same_h0), ⟨rfl, rfl, trivial⟩, ⟨hlp0, by omega, hlm⟩, by first | omega | (dsimp only; omega)⟩
    ·
      try simp only [decide_eq_true_eq, decide_eq_false_iff_not, Bool.not_eq_true', Bool.not_eq_false', Bool.and_eq_true, Bool.or_eq_true, Bool.or_eq_false_iff, Bool.cond_true_right, Bool.cond_false_right, Bool.cond_true_left, Bool.cond_false_left, ne_eq, Decidable.not_not, bne_iff_ne, beq_iff_eq, beq_eq_false_iff_ne, Bool.not_true, Bool.not_false] at hc1
      refine wp_exit ?_
      refine e_then (e_then (e_blk (?_)))
      refine n_then ?_
      refine wp_seq ?_
      refine wp_seq ?_
      refine rg ?_
      refine st (mvI rfl) ?_
      refine st (y_eql rfl rfl) ?_
      refine rg_end ?_
      refine n_then ?_
      refine cnd rfl (fun hc3 => ?_) (fun hc3 => ?_)
      ·
        try simp only [decide_eq_true_eq, decide_eq_false_iff_not, Bool.not_eq_true', Bool.not_eq_false', Bool.and_eq_true, Bool.or_eq_true, Bool.or_eq_false_iff, Bool.cond_true_right, Bool.cond_false_right, Bool.cond_true_left, Bool.cond_false_left, ne_eq, Decidable.not_not, bne_iff_ne, beq_iff_eq, beq_eq_false_iff_ne, Bool.not_true, Bool.not_false] at hc3
        refine wp_seq ?_
        refine rg ?_
        refine st (asI rfl) ?_
        refine st (asB rfl) ?_
        refine st (asI rfl) ?_
        refine rg_end ?_
        refine n_then ?_
        refine wp_ret ?_
        refine r_then (ret3 (v := (.int .i64 _)) (v' := (.bool _)) (v'' := (.int .i64 _)) Try.results16 rfl rfl rfl ?_)
        exact ⟨_, _, _, rfl, by unfold LoopRes; rw [if_neg (by simp [hc0])]; refine ⟨rfl, ?_⟩; have h := hlm.1; rw [show k = N.evs.length by omega] at h; simpa [hc3] using h, hE⟩
      ·
        try simp only [decide_eq_true_eq, decide_eq_false_iff_not, Bool.not_eq_true', Bool.not_eq_false', Bool.and_eq_true, Bool.or_eq_true, Bool.or_eq_false_iff, Bool.cond_true_right, Bool.cond_false_right, Bool.cond_true_left, Bool.cond_false_left, ne_eq, Decidable.not_not, bne_iff_ne, beq_iff_eq, beq_eq_false_iff_ne, Bool.not_true, Bool.not_false] at hc3
        refine wp_skip ?_
        refine n_then ?_
        refine wp_seq ?_
        refine rg ?_
        refine st (mvI rfl) ?_
        refine st (asI rfl) ?_
        refine st (asB rfl) ?_
        refine st (asI rfl) ?_
        refine rg_end ?_
        refine n_then ?_
        refine wp_ret ?_
        refine ret3 (v := (.int .i64 _)) (v' := (.bool _)) (v'' := (.int .i64 _)) Try.results16 rfl rfl rfl ?_
        exact ⟨_, _, _, rfl, by unfold LoopRes; rw [if_neg (by simp [hc0])]; refine ⟨rfl, ?_⟩; have h := hlm.1; rw [show k = N.evs.length by omega] at h; simpa [hc3] using h, hE⟩

set_option maxRecDepth 100000 in
theorem robust_Cushion_ok (N : Net) (A : NetA) (lo hi : Nat) (t : List Int) (at_ : Option Addr) (ct : Nat) (lt ht : Nat) (a : Int) (w : World) (hN : NetIn lo hi w N A) (hT : Ints lt ht w at_ t)  : Cal Try.prog 20 [netV N A, .slice at_ t.length ct, .int .i64 a] w (fun v w' => ∃ d e, v = .tuple #[.int .i64 d, .int .i64 e] ∧ CushRes N t a d e ∧ Ext w w') := by
  replace hN := hN.full
  replace hT := Ints.full hT
  have hE : Out 0 0 w w := Out.refl _ _ w
  refine enter Try.func20 rfl Try.ntmps20 rfl ?_
  refine wp_seq ?_
  refine rg ?_
  refine sd (d_boxA rfl ?_)
  intro bl4 w1 hbbl4 hs3 ho2 hbl4
  have hz5 := ho2.size
  replace hN := hN.ext ho2
  replace hT := hT.ext ho2
  replace hE := hE.step ho2 (.inl (Nat.le_refl _))
  refine st (asI rfl) ?_
  refine st (asI rfl) ?_
  refine rg_end ?_
  refine n_then ?_
  refine wp_seq ?_
  refine wp_seq ?_
  refine rg ?_
  refine st (y_lbN hbl4 agg26 rfl) ?_
  refine st (mvS rfl) ?_
  refine sc cl26 (network_Feasible_ok N A _ _ t _ _ _ _ _ hN hT) rfl ?_
  rintro v10 w6 ⟨rfl, ho7⟩
  have hz11 := ho7.size
  replace hN := hN.ext ho7
  replace hT := hT.ext ho7
  replace hE := hE.step ho7 (.inl (Nat.le_refl _))
  replace hbl4 := hbl4.ext ho7
  refine st (y_not rfl) ?_
  refine rg_end ?_
  refine n_then ?_
  refine cnd rfl (fun hc0 => ?_) (fun hc0 => ?_)
  ·
    try simp only [decide_eq_true_eq, decide_eq_false_iff_not, Bool.not_eq_true', Bool.not_eq_false', Bool.and_eq_true, Bool.or_eq_true, Bool.or_eq_false_iff, Bool.cond_true_right, Bool.cond_false_right, Bool.cond_true_left, Bool.cond_false_left, ne_eq, Decidable.not_not, bne_iff_ne, beq_iff_eq, beq_eq_false_iff_ne, Bool.not_true, Bool.not_false] at hc0
    refine wp_seq ?_
    refine rg ?_
    refine st (asI rfl) ?_
    refine st (asI rfl) ?_
    refine rg_end ?_
    refine n_then ?_
    refine wp_ret ?_
    refine r_then (ret2 (v := (.int .i64 _)) (v' := (.int .i64 _)) Try.results20 rfl rfl ?_)
    exact ⟨_, _, rfl, by unfold CushRes; rw [if_pos hc0]; exact ⟨rfl, rfl⟩, hE⟩
  ·
    try simp only [decide_eq_true_eq, decide_eq_false_iff_not, Bool.not_eq_true', Bool.not_eq_false', Bool.and_eq_true, Bool.or_eq_true, Bool.or_eq_false_iff, Bool.cond_true_right, Bool.cond_false_right, Bool.cond_true_left, Bool.cond_false_left, ne_eq, Decidable.not_not, bne_iff_ne, beq_iff_eq, beq_eq_false_iff_ne, Bool.not_true, Bool.not_false] at hc0
    have hg := feas_good hc0
    refine wp_skip ?_
    refine n_then ?_
    refine wp_seq ?_
    refine cut (γ := Unit) [12, 13, 14, 15, 16, 17, 18, 19, 20] (fun _ => [(20, .bool (decide (¬ (0 ≤ a ∧ a < N.acts.length))))]) (fun _ w_ => Ext w6 w_ ∧ True) ?_ ?_
    ·
      have hcut := Out.refl 0 0 w6
      refine rg ?_
      refine st (mvI rfl) ?_
      refine st (y_lss rfl rfl) ?_
      refine st (mvB rfl) ?_
      refine gspL 14 rfl (fun hg12 => ?_) (fun hg12 => ?_)
      ·
        have hg12n := hg12; try simp only [decide_eq_true_eq, decide_eq_false_iff_not, Bool.not_eq_true', Bool.not_eq_false', Bool.and_eq_true, Bool.or_eq_true, Bool.or_eq_false_iff, Bool.cond_true_right, Bool.cond_false_right, Bool.cond_true_left, Bool.cond_false_left, ne_eq, Decidable.not_not, bne_iff_ne, beq_iff_eq, beq_eq_false_iff_ne, Bool.not_true, Bool.not_false] at hg12n
        refine sts rfl rfl hg12 ?_
        refine sts rfl rfl hg12 ?_
        refine sts rfl rfl hg12 ?_
        refine sts rfl rfl hg12 ?_
        refine sts rfl rfl hg12 ?_
        refine st (y_pickT rfl hg12 (v := .bool _) rfl) ?_
        refine rg_end ?_
        exact n_then ⟨(), _, rfl, same_lk rfl (same_rfl), ⟨vb (by simp only [decide_eq_true_eq, decide_eq_false_iff_not, Bool.not_eq_true', Bool.not_eq_eq_eq_not, Bool.not_true, Bool.false_eq_true, false_iff, true_iff, iff_true, iff_false]; omega), trivial⟩, ⟨hcut, trivial⟩⟩
      ·
        have hg12n := hg12; try simp only [decide_eq_true_eq, decide_eq_false_iff_not, Bool.not_eq_true', Bool.not_eq_false', Bool.and_eq_true, Bool.or_eq_true, Bool.or_eq_false_iff, Bool.cond_true_right, Bool.cond_false_right, Bool.cond_true_left, Bool.cond_false_left, ne_eq, Decidable.not_not, bne_iff_ne, beq_iff_eq, beq_eq_false_iff_ne, Bool.not_true, Bool.not_false] at hg12n
        refine stg rfl rfl hg12 (mvI rfl) ?_
        refine stg rfl rfl hg12 (y_fld fld26_2 rfl) ?_
        refine stg rfl rfl hg12 (y_lb hbl4 na24 rfl rfl) ?_
        refine stg rfl rfl hg12 (y_len Try.underlying24 rfl) ?_
        refine stg rfl rfl hg12 (y_geq rfl rfl) ?_
        refine st (y_pickF rfl hg12 (v := .bool _) rfl) ?_
        refine rg_end ?_
        exact n_then ⟨(), _, rfl, same_lk rfl (same_rfl), ⟨vb (by simp only [decide_eq_true_eq, decide_eq_false_iff_not, Bool.not_eq_true', Bool.not_eq_eq_eq_not, Bool.not_true, Bool.false_eq_true, false_iff, true_iff, iff_true, iff_false]; omega), trivial⟩, ⟨hcut, trivial⟩⟩
    ·
      rintro _ hav_ w13 ⟨ho14, _⟩
      have hz15 := ho14.size
      replace hN := hN.ext ho14
      replace hT := hT.ext ho14
      replace hE := hE.step ho14 (.inl (Nat.le_refl _))
      replace hbl4 := hbl4.ext ho14
      refine cnd rfl (fun hc1 => ?_) (fun hc1 => ?_)
      ·
        try simp only [decide_eq_true_eq, decide_eq_false_iff_not, Bool.not_eq_true', Bool.not_eq_false', Bool.and_eq_true, Bool.or_eq_true, Bool.or_eq_false_iff, Bool.cond_true_right, Bool.cond_false_right, Bool.cond_true_left, Bool.cond_false_left, ne_eq, Decidable.not_not, bne_iff_ne, beq_iff_eq, beq_eq_false_iff_ne, Bool.not_true, Bool.not_false] at hc1
        refine wp_seq ?_
        refine rg ?_
        refine st (asI rfl) ?_
        refine st (asI rfl) ?_
        refine rg_end ?_
        refine n_then ?_
        refine wp_ret ?_
        refine r_then (ret2 (v := (.int .i64 _)) (v' := (.int .i64 _)) Try.results20 rfl rfl ?_)
        exact ⟨_, _, rfl, by unfold CushRes; rw [if_neg (by simp [hc0]), if_pos hc1]; exact ⟨rfl, rfl⟩, hE⟩
      ·
        try simp only [decide_eq_true_eq, decide_eq_false_iff_not, Bool.not_eq_true', Bool.not_eq_false', Bool.and_eq_true, Bool.or_eq_true, Bool.or_eq_false_iff, Bool.cond_true_right, Bool.cond_false_right, Bool.cond_true_left, Bool.cond_false_left, ne_eq, Decidable.not_not, bne_iff_ne, beq_iff_eq, beq_eq_false_iff_ne, Bool.not_true, Bool.not_false] at hc1
        have ha := hg.ok.acs _ (el_mem (l := N.acts) hc1.1 hc1.2)
        refine wp_skip ?_
        refine n_then ?_
        refine wp_seq ?_
        refine rgD 7 (fun w_ => Ext w13 w_) (fun i => false) mixed (by kernel_rfl) ?_
        intro w16 ho17 hs18
        refine ⟨ho17, ?_⟩
        have hx19 := ho17
        refine tn rfl (fun _ hG => y_lbN (hbl4.ext hG) agg26 rfl) ?_
        refine tn rfl (fun _ hG => mvS rfl) ?_
        refine tn rfl (fun _ hG => y_fld fld26_2 rfl) ?_
        refine tn rfl (fun _ hG => y_lb (hbl4.ext hG) na24 rfl rfl) ?_
        refine tn rfl (fun _ hG => mvI rfl) ?_
        refine tn rfl (fun _ hG => y_ix (hN.a.ext hG) sl24 rfl (rfl) rfl (by omega) (by omega)) ?_
        refine tn rfl (fun _ hG => y_lw (hN.a.ext hG) agg40 rfl (by omega) (by omega)) ?_
        refine t_end ?_
        have hz20 := hx19.size
        replace hN := hN.ext hx19
        replace hT := hT.ext hx19
        replace hE := hE.step hx19 (.inl (Nat.le_refl _))
        replace hbl4 := hbl4.ext hx19
        refine sc cl33 (robust_slack_ok N A _ _ t _ _ _ _ _ _ hN hT hg ha) rfl ?_
        rintro v25 w21 ⟨rfl, ho22⟩
        have hz26 := ho22.size
        replace hN := hN.ext ho22
        replace hT := hT.ext ho22
        replace hE := hE.step ho22 (.inl (Nat.le_refl _))
        replace hbl4 := hbl4.ext ho22
        refine st (asI rfl) ?_
        refine st (asI rfl) ?_
        refine rg_end ?_
        refine n_then ?_
        refine wp_ret ?_
        refine ret2 (v := (.int .i64 _)) (v' := (.int .i64 _)) Try.results20 rfl rfl ?_
        exact ⟨_, _, rfl, by unfold CushRes; rw [if_neg (by simp [hc0]), if_neg (not_not_intro hc1)]; exact ⟨rfl, rfl⟩, hE⟩
end Go.Proofs.Ytggaekjnpbicnaa
