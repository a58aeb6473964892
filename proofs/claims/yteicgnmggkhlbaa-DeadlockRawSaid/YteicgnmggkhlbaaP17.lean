/-
  Walks of the functions, printed by a program out of the code and the loops' relations.
-/
import Derived.Test.YteicgnmggkhlbaaWkD
import Derived.Test.YteicgnmggkhlbaaProg
import Derived.KernelRfl
import Derived.Test.YteicgnmggkhlbaaP16
namespace Go.Proofs.Yteicgnmggkhlbaa
open Go.Wk Go.RowKit
set_option linter.unusedVariables false
set_option linter.unusedSimpArgs false
/-- A state from which all trains can leave. -/
inductive Safe (rows : List Pw) : List Int → Prop
  | done {a : List Int} (h : leftB rows a = true) : Safe rows a
  | step {a : List Int} (t : Nat) (ht : t < rows.length) (hm : movB rows a (t : Int) = true) (h : Safe rows (nxA a t)) : Safe rows a
/-- The least sequence of moves after which all trains have left. -/
inductive PlanB (rows : List Pw) : List Int → List Int → Prop
  | nil {a : List Int} (h : leftB rows a = true) : PlanB rows a []
  | cons {a : List Int} (t : Nat) {p : List Int} (ht : t < rows.length) (hm : movB rows a (t : Int) = true) (hl : ∀ u : Nat, u < t → movB rows a (u : Int) = true → ¬ Safe rows (nxA a u)) (h : PlanB rows (nxA a t) p) : PlanB rows a ((t : Int) :: p)
theorem PlanB.safe {rows : List Pw} {a p : List Int} (h : PlanB rows a p) : Safe rows a := by
  induction h with
  | nil h => exact .done h
  | cons t ht hm hl h ih => exact .step t ht hm ih
theorem left_el {rows : List Pw} {a : List Int} (h : leftB rows a = true) {t : Nat} (ht : t < rows.length) : (el rows (t : Int)).st.length ≤ el a (t : Int) := by
  unfold leftB at h
  have := List.all_eq_true.1 h t (List.mem_range.2 ht)
  simpa using this
structure InOk (rows : List Pw) (S : List (List Int)) (a : List Int) : Prop where
  nd : S.Nodup
  go : ∀ x ∈ S, GoP rows x
  ni : ¬ a ∈ S
  ga : GoP rows a
  un : ∀ x ∈ S, remT rows x rows.length ≤ remT rows a rows.length → ¬ Safe rows x
structure ExOk (rows : List Pw) (B : Int) (S : List (List Int)) (a : List Int) (R : Ex) : Prop where
  un : R.c = 19 → ¬ Safe rows a ∧ ∀ x ∈ R.seen, x ∈ S ∨ ¬ Safe rows x
  ok : R.c = 0 → PlanB rows a R.plan
  nd : R.seen.Nodup
  go : ∀ x ∈ R.seen, GoP rows x
  bd : R.c = 15 → (R.seen.length : Int) = B
  cs : R.c = 0 ∨ R.c = 15 ∨ R.c = 19
structure LpI (rows : List Pw) (S : List (List Int)) (a : List Int) (t : Nat) (S' : List (List Int)) : Prop where
  nd : S'.Nodup
  go : ∀ x ∈ S', GoP rows x
  un : ∀ x ∈ S', x ∈ S ∨ x = a ∨ ¬ Safe rows x
  no : ∀ u : Nat, u < t → movB rows a (u : Int) = true → ¬ Safe rows (nxA a u)
structure LpO (rows : List Pw) (B : Int) (S : List (List Int)) (a : List Int) (R : Ex) : Prop where
  un : R.c = 19 → (∀ x ∈ R.seen, x ∈ S ∨ x = a ∨ ¬ Safe rows x) ∧ ∀ u : Nat, u < rows.length → movB rows a (u : Int) = true → ¬ Safe rows (nxA a u)
  ok : R.c = 0 → PlanB rows a R.plan
  nd : R.seen.Nodup
  go : ∀ x ∈ R.seen, GoP rows x
  bd : R.c = 15 → (R.seen.length : Int) = B
  cs : R.c = 0 ∨ R.c = 15 ∨ R.c = 19
theorem exL_ok {rows : List Pw} {B : Int} {S : List (List Int)} {a : List Int} {f : List (List Int) → List Int → Ex} (hin : InOk rows S a) (hf : ∀ (t : Nat) (S' : List (List Int)), t < rows.length → movB rows a (t : Int) = true → InOk rows S' (nxA a t) → ExOk rows B S' (nxA a t) (f S' (nxA a t))) :
    ∀ (j t : Nat) (S' : List (List Int)), t + j = rows.length → LpI rows S a t S' → LpO rows B S a (exL rows f a j t S')
  | 0, t, S', ht, hI => ⟨fun _ => ⟨hI.un, fun u hu => hI.no u (by omega)⟩, (fun h => by cases h), hI.nd, hI.go, (fun h => by cases h), .inr (.inr rfl)⟩
  | j + 1, t, S', ht, hI => by
    have htl : t < rows.length := by omega
    unfold exL
    by_cases c : movB rows a (t : Int) = true ∧ ¬ nxA a t ∈ S'
    · rw [if_pos c]
      have hr := (rem_nx hin.ga htl c.1 rows.length).1 htl
      have hin' : InOk rows S' (nxA a t) := ⟨hI.nd, hI.go, c.2, hin.ga.nx htl c.1, fun x hx hle => by
        rcases hI.un x hx with q | q | q
        · exact hin.un x q (by omega)
        · subst q; omega
        · exact q⟩
      have hex := hf t S' htl c.1 hin'
      by_cases d : (f S' (nxA a t)).c = 19
      · rw [if_pos d]
        obtain ⟨d1, d2⟩ := hex.un d
        refine exL_ok hin hf j (t + 1) _ (by omega) ⟨hex.nd, hex.go, fun x hx => ?_, fun u hu hm => ?_⟩
        · rcases d2 x hx with q | q
          · exact hI.un x q
          · exact .inr (.inr q)
        · by_cases e : u = t
          · subst e; exact d1
          · exact hI.no u (by omega) hm
      · rw [if_neg d]
        exact ⟨fun h => absurd h d, fun h => .cons t htl c.1 hI.no (hex.ok h), hex.nd, hex.go, hex.bd, hex.cs⟩
    · rw [if_neg c]
      refine exL_ok hin hf j (t + 1) _ (by omega) ⟨hI.nd, hI.go, hI.un, fun u hu hm => ?_⟩
      by_cases e : u = t
      · subst e
        have hmem : nxA a u ∈ S' := Classical.byContradiction fun h => c ⟨hm, h⟩
        have hr := (rem_nx hin.ga htl hm rows.length).1 htl
        rcases hI.un _ hmem with q | q | q
        · exact hin.un _ q (by omega)
        · rw [q] at hr; omega
        · exact q
      · exact hI.no u (by omega) hm
theorem nd_snoc {α : Type} {S : List α} {a : α} (h : S.Nodup) (hn : ¬ a ∈ S) : (S ++ [a]).Nodup := by
  rw [List.nodup_append]
  refine ⟨h, by simp, fun x hx y hy e => ?_⟩
  rw [List.mem_singleton.1 hy] at e
  subst e; exact hn hx
theorem exB_ok {rows : List Pw} {B : Int} {S : List (List Int)} {a : List Int} {f : List (List Int) → List Int → Ex} (hin : InOk rows S a) (hf : ∀ (t : Nat) (S' : List (List Int)), t < rows.length → movB rows a (t : Int) = true → InOk rows S' (nxA a t) → ExOk rows B S' (nxA a t) (f S' (nxA a t))) : ExOk rows B S a (exB rows B f S a) := by
  have hgo : ∀ x ∈ S ++ [a], GoP rows x := fun x hx => by
    rcases List.mem_append.1 hx with q | q
    · exact hin.go x q
    · rw [List.mem_singleton.1 q]; exact hin.ga
  unfold exB
  by_cases c : (S.length : Int) = B
  · rw [if_pos c]
    exact ⟨(fun h => by cases h), (fun h => by cases h), hin.nd, hin.go, fun _ => c, .inr (.inl rfl)⟩
  · rw [if_neg c]
    by_cases d : leftB rows a = true
    · rw [if_pos d]
      exact ⟨(fun h => by cases h), fun _ => .nil d, nd_snoc hin.nd hin.ni, hgo, (fun h => by cases h), .inl rfl⟩
    · rw [if_neg d]
      have h := exL_ok hin hf rows.length 0 (S ++ [a]) (by omega) ⟨nd_snoc hin.nd hin.ni, hgo, fun x hx => by
        rcases List.mem_append.1 hx with q | q
        · exact .inl q
        · exact .inr (.inl (List.mem_singleton.1 q)), fun u hu => by omega⟩
      refine ⟨fun hc => ?_, h.ok, h.nd, h.go, h.bd, h.cs⟩
      obtain ⟨h1, h2⟩ := h.un hc
      have hns : ¬ Safe rows a := fun hs => by
        cases hs with
        | done q => exact d q
        | step t ht hm q => exact h2 t ht hm q
      refine ⟨hns, fun x hx => ?_⟩
      rcases h1 x hx with q | q | q
      · exact .inl q
      · subst q; exact .inr hns
      · exact .inr q
theorem exm_ok {rows : List Pw} {B : Int} : ∀ (m : Nat) (S : List (List Int)) (a : List Int), remT rows a rows.length ≤ m → InOk rows S a → ExOk rows B S a (exm rows B m S a)
  | 0, S, a, hr, hin => exB_ok hin (fun t S' ht hm _ => absurd (rem_pos (movB_lt hm) rows.length ht) (by omega))
  | m + 1, S, a, hr, hin => exB_ok hin (fun t S' ht hm h => exm_ok m S' (nxA a t) (by have := (rem_nx hin.ga ht hm rows.length).1 ht; omega) h)
/-- The number of a state. -/
def idxT (rows : List Pw) (a : List Int) : Nat → Int
  | 0 => 0
  | k + 1 => idxT rows a k * ((el rows (k : Int)).st.length + 2) + el a (k : Int) + 1
def totT (rows : List Pw) : Nat → Int
  | 0 => 1
  | k + 1 => totT rows k * ((el rows (k : Int)).st.length + 2)
theorem idx_rng {rows : List Pw} {a : List Int} : ∀ {k : Nat}, (∀ i : Nat, i < k → -1 ≤ el a (i : Int) ∧ el a (i : Int) ≤ (el rows (i : Int)).st.length) → 0 ≤ idxT rows a k ∧ idxT rows a k < totT rows k
  | 0, _ => ⟨by unfold idxT; omega, by unfold idxT totT; omega⟩
  | k + 1, h => by
    have ih := idx_rng (k := k) (fun i hi => h i (by omega))
    have hk := h k (by omega)
    unfold idxT totT
    generalize idxT rows a k = I at ih
    generalize totT rows k = T at ih
    have hL : (0 : Int) ≤ ((el rows (k : Int)).st.length : Int) + 2 := by omega
    have h1 : (I + 1) * (((el rows (k : Int)).st.length : Int) + 2) ≤ T * (((el rows (k : Int)).st.length : Int) + 2) := Int.mul_le_mul_of_nonneg_right (by omega) hL
    have h2 : 0 ≤ I * (((el rows (k : Int)).st.length : Int) + 2) := Int.mul_nonneg ih.1 hL
    rw [Int.add_mul, Int.one_mul] at h1
    omega
theorem dig_inj {I J L u v : Int} (hu : 0 ≤ u ∧ u < L) (hv : 0 ≤ v ∧ v < L) (h : I * L + u = J * L + v) : I = J ∧ u = v := by
  have e1 : (I * L + u) % L = u := by rw [Int.add_comm, Int.add_mul_emod_self_right, Int.emod_eq_of_lt hu.1 hu.2]
  have e2 : (J * L + v) % L = v := by rw [Int.add_comm, Int.add_mul_emod_self_right, Int.emod_eq_of_lt hv.1 hv.2]
  have huv : u = v := by rw [← e1, h, e2]
  subst huv
  refine ⟨?_, rfl⟩
  have : I * L = J * L := by omega
  exact Int.eq_of_mul_eq_mul_right (by omega) this
theorem idx_inj {rows : List Pw} {a b : List Int} : ∀ {k : Nat}, (∀ i : Nat, i < k → -1 ≤ el a (i : Int) ∧ el a (i : Int) ≤ (el rows (i : Int)).st.length) → (∀ i : Nat, i < k → -1 ≤ el b (i : Int) ∧ el b (i : Int) ≤ (el rows (i : Int)).st.length) → idxT rows a k = idxT rows b k → ∀ i : Nat, i < k → el a (i : Int) = el b (i : Int)
  | 0, _, _, _, i, hi => by omega
  | k + 1, h1, h2, he, i, hi => by
    have a1 := h1 k (by omega)
    have a2 := h2 k (by omega)
    unfold idxT at he
    have := dig_inj (I := idxT rows a k) (J := idxT rows b k) (L := ((el rows (k : Int)).st.length : Int) + 2) (u := el a (k : Int) + 1) (v := el b (k : Int) + 1) (by omega) (by omega) (by omega)
    by_cases e : i = k
    · subst e; omega
    · exact idx_inj (fun i hi => h1 i (by omega)) (fun i hi => h2 i (by omega)) this.1 i (by omega)
theorem GoP.inj {rows : List Pw} {a b : List Int} (ha : GoP rows a) (hb : GoP rows b) (h : idxT rows a rows.length = idxT rows b rows.length) : a = b := by
  have h1 := ha.len
  have h2 := hb.len
  exact list_ext_el (by omega) (fun q hq => idx_inj ha.rng hb.rng h q (by omega))
theorem tot_le {rows : List Pw} : ∀ {k : Nat}, (∀ i : Nat, i < k → (el rows (i : Int)).st.length ≤ 4) → 1 ≤ totT rows k ∧ totT rows k ≤ 6 ^ k
  | 0, _ => ⟨by unfold totT; omega, by unfold totT; simp⟩
  | k + 1, h => by
    have ih := tot_le (k := k) (fun i hi => h i (by omega))
    have hk := h k (by omega)
    unfold totT
    generalize totT rows k = T at ih
    have h1 : T * (((el rows (k : Int)).st.length : Int) + 2) ≤ T * 6 := Int.mul_le_mul_of_nonneg_left (by omega) (by omega)
    have h2 : T * 2 ≤ T * (((el rows (k : Int)).st.length : Int) + 2) := Int.mul_le_mul_of_nonneg_left (by omega) (by omega)
    rw [Int.pow_succ]
    omega
theorem SmP.tot {rows : List Pw} (h : SmP rows) : 1 ≤ totT rows rows.length ∧ totT rows rows.length ≤ 216 := by
  have h1 := tot_le (rows := rows) (k := rows.length) (fun i hi => (h.row _ (el_mem (by omega) (by omega))).2.1)
  have h2 : rows.length ≤ 3 := h.n3
  have h3 : (6 : Int) ^ rows.length ≤ 216 := by
    have : rows.length = 0 ∨ rows.length = 1 ∨ rows.length = 2 ∨ rows.length = 3 := by omega
    rcases this with e | e | e | e <;> rw [e] <;> decide
  omega
theorem nd_map {α β : Type} {f : α → β} {l : List α} (h : l.Nodup) (hf : ∀ x ∈ l, ∀ y ∈ l, f x = f y → x = y) : (l.map f).Nodup := by
  rw [List.Nodup, List.pairwise_map]
  exact List.Pairwise.imp_of_mem (fun {a b} ha hb hne e => hne (hf a ha b hb e)) h
theorem seen_le {rows : List Pw} {S : List (List Int)} (hnd : S.Nodup) (hgo : ∀ x ∈ S, GoP rows x) (ht : totT rows rows.length ≤ 216) : S.length ≤ 216 := by
  have h := nodup_len 216 (S.map (fun x => idxT rows x rows.length)) (nd_map hnd (fun x hx y hy e => (hgo x hx).inj (hgo y hy) e)) (fun z hz => by
    obtain ⟨x, hx, rfl⟩ := List.mem_map.1 hz
    have := idx_rng (rows := rows) (a := x) (k := rows.length) (hgo x hx).rng
    exact ⟨this.1, by show idxT rows x rows.length < ((216 : Nat) : Int); omega⟩)
  rwa [List.length_map] at h
/-- Search with the greatest budget tells whether a state is safe. -/
theorem sr_safe {rows : List Pw} {at_ l : List Int} {n e e0 : Int} (hg : GoP rows at_) (ht : totT rows rows.length ≤ 216) (h0 : e0 = 0) (h : (l, n, e) = srF rows at_ 1048576 e0) : (e = 0 ∧ PlanB rows at_ l) ∨ (e = 19 ∧ ¬ Safe rows at_) := by
  have hx := exm_ok (B := 1048576) (remT rows at_ rows.length) [] at_ (Nat.le_refl _) ⟨List.nodup_nil, (fun x hx => by cases hx), (fun h => by cases h), hg, (fun x hx => by cases hx)⟩
  unfold srF at h
  rw [if_neg (fun q => q h0), if_neg (by omega)] at h
  generalize exm rows 1048576 (remT rows at_ rows.length) [] at_ = R at h hx
  unfold srR at h
  rcases hx.cs with c | c | c
  · rw [if_pos c] at h
    have h1 : l = R.plan := congrArg Prod.fst h
    have h2 : e = 0 := congrArg (fun q => q.2.2) h
    exact .inl ⟨h2, by rw [h1]; exact hx.ok c⟩
  · have h1 := hx.bd c
    have h2 := seen_le hx.nd hx.go ht
    omega
  · rw [if_neg (by rw [c]; decide), if_pos c] at h
    have h2 : e = 19 := congrArg (fun q => q.2.2) h
    exact .inr ⟨h2, (hx.un c).1⟩
theorem sr_bad {rows : List Pw} {at_ l : List Int} {n e e0 B : Int} (h0 : e0 ≠ 0) (h : (l, n, e) = srF rows at_ B e0) : e = e0 := by
  unfold srF at h
  rw [if_pos h0] at h
  exact congrArg (fun q => q.2.2) h
theorem ck_cases {rows : List Pw} {at_ : List Int} {e : Int} (h : CkR rows at_ e) (hva : VaP rows) (hg : GoP rows at_) : (e = 0 ∧ ¬ Hel rows at_) ∨ (e = 17 ∧ Hel rows at_) := by
  by_cases c : Hel rows at_
  · exact .inr ⟨h.b hva hg c, c⟩
  · exact .inl ⟨h.c hva hg c, c⟩
end Go.Proofs.Yteicgnmggkhlbaa
