/-
  Square matrices of integers made by a call itself: an outer slice, and a block for each row behind it.
-/
import Derived.Test.YtggaekjnpbicnaaBase
namespace Go.Wk
set_option linter.unusedVariables false
set_option linter.unusedSimpArgs false

def encV (r : Option Addr × Nat × Nat) : List Value := [.slice r.1 r.2.1 r.2.2]
def rowsV (D n : Nat) : List (Option Addr × Nat × Nat) := (List.range n).map fun i => (some ⟨D + 1 + i, 0, none⟩, n, n)
theorem rowsV_len (D n : Nat) : (rowsV D n).length = n := by simp [rowsV]
theorem rowsV_el {D n : Nat} {i : Int} (h0 : 0 ≤ i) (h1 : i < n) : el (rowsV D n) i = (some ⟨D + 1 + i.toNat, 0, none⟩, n, n) := by
  have h : i.toNat < n := by omega
  simp [el, rowsV, List.getD_eq_getElem?_getD, h]

def mat (M : List (List Int)) (i j : Int) : Int := el (el M i) j
def mset (M : List (List Int)) (i j x : Int) : List (List Int) := M.set i.toNat ((el M i).set j.toNat x)

structure MatW (E : TypeId) (D n : Nat) (w : World) (M : List (List Int)) : Prop where
  top : Sl encV 1 D (D + 1) w (some ⟨D, 0, none⟩) (rowsV D n)
  len : M.length = n
  rlen : ∀ (i : Nat) (r : List Int), M[i]? = some r → r.length = n
  row : ∀ (i : Nat) (r : List Int), M[i]? = some r → Ow E encI 1 (D + 1 + i) (D + 2 + i) w (some ⟨D + 1 + i, 0, none⟩) n r

section
variable {E : TypeId} {D n : Nat} {w w' : World} {M : List (List Int)}
theorem MatW.out {a b : Nat} (h : MatW E D n w M) (ho : Out a b w w') (hs : D + 1 + n ≤ a ∨ b ≤ D ∨ b ≤ a) : MatW E D n w' M := by
  have hl := h.len
  refine ⟨h.top.out ho (by omega), h.len, h.rlen, fun i r hr => (h.row i r hr).out ho ?_⟩
  have hi : i < M.length := (List.getElem?_eq_some_iff.1 hr).1
  simp only [blk_some, hi1_some]; omega
theorem MatW.ext (h : MatW E D n w M) (ho : Ext w w') : MatW E D n w' M := h.out ho (.inr (.inr (Nat.le_refl _)))
theorem MatW.get (h : MatW E D n w M) {i : Int} (h0 : 0 ≤ i) (h1 : i < n) : M[i.toNat]? = some (el M i) := el_get h0 (by rw [h.len]; exact h1)
theorem MatW.rl (h : MatW E D n w M) {i : Int} (h0 : 0 ≤ i) (h1 : i < n) : (el M i).length = n := h.rlen _ _ (h.get h0 h1)
end

section
variable {P : Program} {fn : Nat} {f : Nat → Value} {d : Option Tmp} {ty : TypeId} {pos : String} {af : Array Edge} {gd : Option (Nat × Bool)} {w : World} {x y : Operand} {T : TypeId} {v : Value} {E E' : TypeId} {D n : Nat} {M : List (List Int)} {i j : Int} {k : IntKind} {c : Nat} {K : Value → World → Prop}

theorem y_mi (hM : MatW E D n w M) (h : SliceOf P T E' 1) (hx : ev fn f x = .slice (some ⟨D, 0, none⟩) n c) (hy : ev fn f y = .int k i) (h0 : 0 ≤ i) (h1 : i < n) :
    Yl P fn f ⟨d, .indexAddr T x y, ty, pos, af, gd⟩ w (.pointer (some ⟨D, 0 + i.toNat * 1, none⟩)) :=
  y_ix hM.top h hx (rowsV_len D n).symm hy h0 (by rw [rowsV_len]; exact h1)
theorem y_mrow (hM : MatW E D n w M) (h : NotAgg P T) (hx : ev fn f x = .pointer (some ⟨D, 0 + i.toNat * 1, none⟩)) (h0 : 0 ≤ i) (h1 : i < n) :
    Yl P fn f ⟨d, .load T x, ty, pos, af, gd⟩ w (.slice (some ⟨D + 1 + i.toNat, 0, none⟩) n n) :=
  y_le hM.top h hx h0 (by rw [rowsV_len]; exact h1) (by rw [rowsV_el h0 h1]; rfl)
theorem y_mri (hM : MatW E D n w M) (h : SliceOf P T E' 1) (hx : ev fn f x = .slice (some ⟨D + 1 + i.toNat, 0, none⟩) n c) (hy : ev fn f y = .int k j) (h0 : 0 ≤ i) (h1 : i < n) (j0 : 0 ≤ j) (j1 : j < n) :
    Yl P fn f ⟨d, .indexAddr T x y, ty, pos, af, gd⟩ w (.pointer (some ⟨D + 1 + i.toNat, 0 + j.toNat * 1, none⟩)) :=
  y_ix (hM.row _ _ (hM.get h0 h1)).sl h hx (hM.rl h0 h1).symm hy j0 (by rw [hM.rl h0 h1]; exact j1)
theorem y_mel (hM : MatW E D n w M) (h : NotAgg P T) (hx : ev fn f x = .pointer (some ⟨D + 1 + i.toNat, 0 + j.toNat * 1, none⟩)) (h0 : 0 ≤ i) (h1 : i < n) (j0 : 0 ≤ j) (j1 : j < n) :
    Yl P fn f ⟨d, .load T x, ty, pos, af, gd⟩ w (.int .i64 (mat M i j)) :=
  y_le (hM.row _ _ (hM.get h0 h1)).sl h hx j0 (by rw [hM.rl h0 h1]; exact j1) rfl
theorem d_ms {u : Int} (hM : MatW E D n w M) (hT : SzOf P T 1) (hx : ev fn f x = .pointer (some ⟨D + 1 + i.toNat, 0 + j.toNat * 1, none⟩)) (hy : ev fn f y = .int .i64 u) (h0 : 0 ≤ i) (h1 : i < n) (j0 : 0 ≤ j) (j1 : j < n)
    (kk : ∀ w', w'.heap.size = w.heap.size → Out (D + 1) (D + 1 + n) w w' → MatW E D n w' (mset M i j u) → K undef w') : DoK P fn f ⟨d, .store T x y, ty, pos, af, gd⟩ w K := by
  have hr := hM.row _ _ (hM.get h0 h1)
  have hl := hM.rl h0 h1
  refine d_se (j := 0) (e' := u) hr hT hx hy rfl j0 (by rw [hl]; exact j1) (by decide) rfl ?_
  intro w' hs ho hO
  simp only [blk_some, hi1_some] at ho
  refine kk w' hs (ho.wide (by omega)) ⟨hM.top.out ho (by omega), by simp [mset, hM.len], ?_, ?_⟩
  · intro a r hr'
    by_cases ha : a = i.toNat
    · subst ha
      unfold mset at hr'
      rw [List.getElem?_set_self (by rw [hM.len]; omega)] at hr'
      have hr2 := (Option.some.inj hr').symm
      rw [hr2, List.length_set]; exact hl
    · unfold mset at hr'
      rw [List.getElem?_set_ne (Ne.symm ha)] at hr'; exact hM.rlen a r hr'
  · intro a r hr'
    by_cases ha : a = i.toNat
    · subst ha
      unfold mset at hr'
      rw [List.getElem?_set_self (by rw [hM.len]; omega)] at hr'
      have hr2 := (Option.some.inj hr').symm
      rw [hr2]; exact hO
    · unfold mset at hr'
      rw [List.getElem?_set_ne (Ne.symm ha)] at hr'
      exact (hM.row a r hr').out ho (by simp only [blk_some, hi1_some]; omega)
end

theorem mat_mset {M : List (List Int)} {n : Nat} (hl : M.length = n) (hr : ∀ (i : Nat) (r : List Int), M[i]? = some r → r.length = n) {i j x y u : Int} (i0 : 0 ≤ i) (i1 : i < n) (j0 : 0 ≤ j) (j1 : j < n) (x0 : 0 ≤ x) (y0 : 0 ≤ y) :
    mat (mset M i j u) x y = if x = i ∧ y = j then u else mat M x y := by
  have hi : i.toNat < M.length := by omega
  have hg : M[i.toNat]? = some (el M i) := el_get i0 (by omega)
  have hrl := hr _ _ hg
  unfold mat mset
  by_cases hx : x = i
  · subst hx
    have e1 : el (M.set x.toNat ((el M x).set j.toNat u)) x = (el M x).set j.toNat u := by
      simp [el, List.getD_eq_getElem?_getD, hi]
    rw [e1]
    by_cases hy : y = j
    · subst hy
      have : y.toNat < (el M x).length := by omega
      simp [el, List.getD_eq_getElem?_getD] at this ⊢
      simp [this]
    · have hne : j.toNat ≠ y.toNat := by omega
      simp only [hy, and_false, if_false]
      simp [el, List.getD_eq_getElem?_getD, List.getElem?_set_ne hne]
  · have hne : i.toNat ≠ x.toNat := by omega
    simp only [hx, false_and, if_false]
    simp [el, List.getD_eq_getElem?_getD, List.getElem?_set_ne hne]
end Go.Wk
