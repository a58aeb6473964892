/-
  A stable sort by widths as plain data: insertion, exchange of ranges, rotation, merging in place.
-/
import Derived.Test.YtdgkaahghlbocaaPt
namespace Go.Wk
set_option linter.unusedVariables false
set_option linter.unusedSimpArgs false

/-- The order: by width, then by number. -/
def ltW (wd : Int → Int) (x y : Int) : Prop := wd x < wd y ∨ (wd x = wd y ∧ x < y)
theorem ltW.trans {wd : Int → Int} {x y z : Int} (h : ltW wd x y) (k : ltW wd y z) : ltW wd x z := by unfold ltW at *; omega
theorem ltW.of {wd : Int → Int} {x y : Int} (h : wd x < wd y) : ltW wd x y := .inl h
theorem ltW.not {wd : Int → Int} {x y : Int} (h : ¬ wd x < wd y) (hn : y < x) : ltW wd y x := by unfold ltW; omega
def SrtR (wd : Int → Int) (l : List Int) (a b : Int) : Prop := ∀ i j : Int, a ≤ i → i < j → j < b → ltW wd (el l i) (el l j)
theorem SrtR.part {wd : Int → Int} {l : List Int} {a b a' b' : Int} (h : SrtR wd l a b) (h1 : a ≤ a') (h2 : b' ≤ b) : SrtR wd l a' b' := fun i j hi hij hj => h i j (by omega) hij (by omega)
theorem SrtR.le {wd : Int → Int} {l : List Int} {a b : Int} (h : SrtR wd l a b) {i j : Int} (hi : a ≤ i) (hij : i ≤ j) (hj : j < b) {x : Int} (hx : ltW wd (el l j) x) : ltW wd (el l i) x := by
  by_cases e : i = j
  · rw [e]; exact hx
  · exact (h i j hi (by omega) hj).trans hx
theorem SrtR.ge {wd : Int → Int} {l : List Int} {a b : Int} (h : SrtR wd l a b) {i j : Int} (hi : a ≤ i) (hij : i ≤ j) (hj : j < b) {x : Int} (hx : ltW wd x (el l i)) : ltW wd x (el l j) := by
  by_cases e : i = j
  · rw [← e]; exact hx
  · exact hx.trans (h i j hi (by omega) hj)
theorem SrtR.cat {wd : Int → Int} {l : List Int} {a m b : Int} (h1 : SrtR wd l a m) (h2 : SrtR wd l m b) (hc : ∀ i j : Int, a ≤ i → i < m → m ≤ j → j < b → ltW wd (el l i) (el l j)) : SrtR wd l a b := fun i j hi hij hj => by
  by_cases e : j < m
  · exact h1 i j hi hij e
  · by_cases e2 : i < m
    · exact hc i j hi e2 (by omega) hj
    · exact h2 i j (by omega) hij hj
/-- Numbers on the left are smaller than those on the right. -/
def LRn (l : List Int) (a m b : Int) : Prop := ∀ i j : Int, a ≤ i → i < m → m ≤ j → j < b → el l i < el l j
/-- Changed between 'a' and 'b' alone, by what lay there. -/
structure Frm (l0 l : List Int) (a b : Int) : Prop where
  len : l.length = l0.length
  out : ∀ i : Int, 0 ≤ i → i < l0.length → (i < a ∨ b ≤ i) → el l i = el l0 i
  src : ∀ i : Int, a ≤ i → i < b → ∃ j : Int, a ≤ j ∧ j < b ∧ el l i = el l0 j
theorem Frm.refl (l : List Int) (a b : Int) : Frm l l a b := ⟨rfl, fun _ _ _ _ => rfl, fun i h0 h1 => ⟨i, h0, h1, rfl⟩⟩
theorem Frm.trans {l0 l1 l2 : List Int} {a b : Int} (h : Frm l0 l1 a b) (k : Frm l1 l2 a b) : Frm l0 l2 a b :=
  ⟨by rw [k.len, h.len], fun i h0 h1 h2 => by rw [k.out i h0 (by rw [h.len]; exact h1) h2, h.out i h0 h1 h2], fun i h0 h1 => by
    obtain ⟨j, j0, j1, e⟩ := k.src i h0 h1
    obtain ⟨q, q0, q1, e'⟩ := h.src j j0 j1
    exact ⟨q, q0, q1, e.trans e'⟩⟩
theorem Frm.wide {l0 l : List Int} {a b a' b' : Int} (h : Frm l0 l a b) (h0 : 0 ≤ a') (h1 : a' ≤ a) (h2 : b ≤ b') (h3 : b' ≤ l0.length) : Frm l0 l a' b' :=
  ⟨h.len, fun i i0 i1 hi => h.out i i0 i1 (by omega), fun i i0 i1 => by
    by_cases c : i < a ∨ b ≤ i
    · exact ⟨i, i0, i1, h.out i (by omega) (by omega) c⟩
    · obtain ⟨j, j0, j1, e⟩ := h.src i (by omega) (by omega)
      exact ⟨j, by omega, by omega, e⟩⟩
theorem Frm.srt {wd : Int → Int} {l0 l : List Int} {a b p q : Int} (h : Frm l0 l a b) (hs : SrtR wd l0 p q) (hp : 0 ≤ p) (hq : q ≤ l0.length) (hd : q ≤ a ∨ b ≤ p) : SrtR wd l p q := fun i j hi hij hj => by
  rw [h.out i (by omega) (by omega) (by omega), h.out j (by omega) (by omega) (by omega)]; exact hs i j hi hij hj
/-- After two stores. -/
theorem el2 {l : List Int} {i j k x y : Int} (i0 : 0 ≤ i) (i1 : i < l.length) (j0 : 0 ≤ j) (j1 : j < l.length) (k0 : 0 ≤ k) : el ((l.set i.toNat x).set j.toNat y) k = if k = j then y else if k = i then x else el l k := by
  by_cases e : k = j
  · rw [if_pos e, e, elSetS j0 (by simpa using j1)]
  · rw [if_neg e, elSetN j0 k0 e]
    by_cases e2 : k = i
    · rw [if_pos e2, e2, elSetS i0 i1]
    · rw [if_neg e2, elSetN i0 k0 e2]

/-! ### Insertion -/
structure InsI (wd : Int → Int) (l1 cur : List Int) (a j i : Int) : Prop where
  len : cur.length = l1.length
  here : el cur j = el l1 i
  low : ∀ k : Int, 0 ≤ k → k < j → el cur k = el l1 k
  mid : ∀ k : Int, j < k → k ≤ i → el cur k = el l1 (k - 1) ∧ ltW wd (el l1 i) (el cur k)
  hig : ∀ k : Int, i < k → k < l1.length → el cur k = el l1 k
theorem InsI.start {wd : Int → Int} {l1 : List Int} {a i : Int} : InsI wd l1 l1 a i i := ⟨rfl, rfl, fun _ _ _ => rfl, fun k h1 h2 => by omega, fun _ _ _ => rfl⟩
theorem InsI.step {wd : Int → Int} {l1 cur : List Int} {a j i : Int} (h : InsI wd l1 cur a j i) (ha : 0 ≤ a) (hj : a < j) (hji : j ≤ i) (hi : i < l1.length) (hx : ltW wd (el cur j) (el cur (j - 1))) :
    InsI wd l1 ((cur.set j.toNat (el cur (j - 1))).set (j - 1).toNat (el cur j)) a (j - 1) i := by
  have hl := h.len
  have e2 : ∀ k : Int, 0 ≤ k → el ((cur.set j.toNat (el cur (j - 1))).set (j - 1).toNat (el cur j)) k = if k = j - 1 then el cur j else if k = j then el cur (j - 1) else el cur k := fun k k0 => el2 (by omega) (by omega) (by omega) (by omega) k0
  refine ⟨by simp [hl], ?_, fun k k0 k1 => ?_, fun k k1 k2 => ?_, fun k k1 k2 => ?_⟩
  · rw [e2 _ (by omega), if_pos rfl]; exact h.here
  · rw [e2 _ k0, if_neg (by omega), if_neg (by omega)]; exact h.low k k0 (by omega)
  · rw [e2 _ (by omega), if_neg (by omega)]
    by_cases e : k = j
    · rw [if_pos e, e, h.low (j - 1) (by omega) (by omega)]
      rw [h.here, h.low (j - 1) (by omega) (by omega)] at hx
      exact ⟨rfl, hx⟩
    · rw [if_neg e]; exact h.mid k (by omega) k2
  · rw [e2 _ (by omega), if_neg (by omega), if_neg (by omega)]; exact h.hig k k1 k2
theorem InsI.done {wd : Int → Int} {l1 cur : List Int} {a j i : Int} (h : InsI wd l1 cur a j i) (ha : 0 ≤ a) (hj : a ≤ j) (hji : j ≤ i) (hi : i < l1.length) (hs : SrtR wd l1 a i) (hx : a < j → ltW wd (el cur (j - 1)) (el cur j)) : SrtR wd cur a (i + 1) ∧ Frm l1 cur a (i + 1) := by
  have hx' : a < j → ltW wd (el l1 (j - 1)) (el l1 i) := fun q => by
    have := hx q
    rwa [h.here, h.low _ (by omega) (by omega)] at this
  refine ⟨fun p q hp hpq hq => ?_, h.len, fun k k0 k1 hk => ?_, fun k k0 k1 => ?_⟩
  · by_cases p1 : p < j
    · rw [h.low p (by omega) p1]
      by_cases q1 : q < j
      · rw [h.low q (by omega) q1]; exact hs p q hp hpq (by omega)
      · have hpx := hs.le (i := p) (j := j - 1) hp (by omega) (by omega) (hx' (by omega))
        by_cases q2 : q = j
        · rw [q2, h.here]; exact hpx
        · exact hpx.trans (h.mid q (by omega) (by omega)).2
    · by_cases p2 : p = j
      · rw [p2, h.here]; exact (h.mid q (by omega) (by omega)).2
      · rw [(h.mid p (by omega) (by omega)).1, (h.mid q (by omega) (by omega)).1]; exact hs _ _ (by omega) (by omega) (by omega)
  · by_cases c : k < a
    · exact h.low k k0 (by omega)
    · exact h.hig k (by omega) k1
  · by_cases c : k < j
    · exact ⟨k, k0, k1, h.low k (by omega) c⟩
    · by_cases c2 : k = j
      · exact ⟨i, by omega, by omega, by rw [c2]; exact h.here⟩
      · exact ⟨k - 1, by omega, by omega, (h.mid k (by omega) (by omega)).1⟩

/-! ### Exchange of two ranges -/
structure SwpI (l0 l : List Int) (a b c : Int) : Prop where
  len : l.length = l0.length
  eqv : ∀ k : Int, 0 ≤ k → k < l0.length → el l k = if a ≤ k ∧ k < a + c then el l0 (k - a + b) else if b ≤ k ∧ k < b + c then el l0 (k - b + a) else el l0 k
theorem SwpI.start {l0 : List Int} {a b : Int} : SwpI l0 l0 a b 0 := ⟨rfl, fun k _ _ => by rw [if_neg (by omega), if_neg (by omega)]⟩
theorem SwpI.step {l0 l : List Int} {a b c : Int} (h : SwpI l0 l a b c) (ha : 0 ≤ a) (hc : 0 ≤ c) (hab : a + c < b) (hb : b + c < l0.length) : SwpI l0 ((l.set (a + c).toNat (el l (b + c))).set (b + c).toNat (el l (a + c))) a b (c + 1) := by
  have hl := h.len
  refine ⟨by simp [hl], fun k k0 k1 => ?_⟩
  rw [el2 (by omega) (by omega) (by omega) (by omega) k0]
  by_cases e : k = b + c
  · rw [if_pos e, if_neg (by omega), if_pos (by omega), h.eqv _ (by omega) (by omega), if_neg (by omega), if_neg (by omega)]; congr 1; omega
  · rw [if_neg e]
    by_cases e2 : k = a + c
    · rw [if_pos e2, if_pos (by omega), h.eqv _ (by omega) (by omega), if_neg (by omega), if_neg (by omega)]; congr 1; omega
    · rw [if_neg e2, h.eqv k k0 k1]
      by_cases e3 : a ≤ k ∧ k < a + c
      · rw [if_pos e3, if_pos (by omega)]
      · by_cases e4 : b ≤ k ∧ k < b + c
        · rw [if_neg e3, if_pos e4, if_neg (by omega), if_pos (by omega)]
        · rw [if_neg e3, if_neg e4, if_neg (by omega), if_neg (by omega)]

/-! ### Rotation -/
def rotF (l0 : List Int) (a m b : Int) (k : Int) : Int := if a ≤ k ∧ k < a + (b - m) then el l0 (k + (m - a)) else if a + (b - m) ≤ k ∧ k < b then el l0 (k - (b - m)) else el l0 k
structure RotI (l0 l : List Int) (a m b i j : Int) : Prop where
  len : l.length = l0.length
  out : ∀ k : Int, 0 ≤ k → k < l0.length → (k < m - i ∨ m + j ≤ k) → el l k = rotF l0 a m b k
  low : ∀ k : Int, m - i ≤ k → k < m - i + j → el l (k + i) = rotF l0 a m b k
  hig : ∀ k : Int, m - i + j ≤ k → k < m + j → el l (k - j) = rotF l0 a m b k
theorem RotI.start {l0 : List Int} {a m b : Int} (h1 : a < m) (h2 : m < b) : RotI l0 l0 a m b (m - a) (b - m) := by
  refine ⟨rfl, fun k _ _ hk => ?_, fun k k0 k1 => ?_, fun k k0 k1 => ?_⟩ <;> unfold rotF
  · rw [if_neg (by omega), if_neg (by omega)]
  · rw [if_pos (by omega)]
  · rw [if_neg (by omega), if_pos (by omega)]
theorem RotI.left {l0 l l' : List Int} {a m b i j : Int} (h : RotI l0 l a m b i j) (hj : 0 < j) (hij : j < i) (hm : i ≤ m) (hb : m + j ≤ l0.length) (hs : SwpI l l' (m - i) m j) : RotI l0 l' a m b (i - j) j := by
  have hl := h.len
  refine ⟨by rw [hs.len, hl], fun k k0 k1 hk => ?_, fun k k0 k1 => ?_, fun k k0 k1 => ?_⟩
  · rw [hs.eqv k k0 (by omega)]
    by_cases c : m - i ≤ k ∧ k < m - i + j
    · rw [if_pos c, ← h.low k c.1 c.2]; congr 1; omega
    · rw [if_neg c, if_neg (by omega)]; exact h.out k k0 k1 (by omega)
  · rw [hs.eqv _ (by omega) (by omega), if_neg (by omega), if_pos (by omega), ← h.hig k (by omega) (by omega)]; congr 1; omega
  · rw [hs.eqv _ (by omega) (by omega), if_neg (by omega), if_neg (by omega)]; exact h.hig k (by omega) k1
theorem RotI.right {l0 l l' : List Int} {a m b i j : Int} (h : RotI l0 l a m b i j) (hi : 0 < i) (hij : i < j) (hm : i ≤ m) (hb : m + j ≤ l0.length) (hs : SwpI l l' (m - i) (m + j - i) i) : RotI l0 l' a m b i (j - i) := by
  have hl := h.len
  refine ⟨by rw [hs.len, hl], fun k k0 k1 hk => ?_, fun k k0 k1 => ?_, fun k k0 k1 => ?_⟩
  · rw [hs.eqv k k0 (by omega)]
    by_cases c : m + j - i ≤ k ∧ k < m + j - i + i
    · rw [if_neg (by omega), if_pos c, ← h.hig k (by omega) (by omega)]; congr 1; omega
    · rw [if_neg (by omega), if_neg c]; exact h.out k k0 k1 (by omega)
  · rw [hs.eqv _ (by omega) (by omega), if_neg (by omega), if_neg (by omega)]; exact h.low k k0 (by omega)
  · rw [hs.eqv _ (by omega) (by omega), if_pos (by omega), ← h.low k (by omega) (by omega)]; congr 1; omega
theorem RotI.last {l0 l l' : List Int} {a m b i : Int} (h : RotI l0 l a m b i i) (hi : 0 < i) (hm : i ≤ m) (hb : m + i ≤ l0.length) (hs : SwpI l l' (m - i) m i) : l'.length = l0.length ∧ ∀ k : Int, 0 ≤ k → k < l0.length → el l' k = rotF l0 a m b k := by
  have hl := h.len
  refine ⟨by rw [hs.len, hl], fun k k0 k1 => ?_⟩
  rw [hs.eqv k k0 (by omega)]
  by_cases c : m - i ≤ k ∧ k < m - i + i
  · rw [if_pos c, ← h.low k c.1 c.2]; congr 1; omega
  · rw [if_neg c]
    by_cases c2 : m ≤ k ∧ k < m + i
    · rw [if_pos c2, ← h.hig k (by omega) (by omega)]; congr 1; omega
    · rw [if_neg c2]; exact h.out k k0 k1 (by omega)

/-! ### One element into its place -/
structure ShL (l cur : List Int) (a k : Int) : Prop where
  len : cur.length = l.length
  mov : ∀ p : Int, a ≤ p → p < k → el cur p = el l (p + 1)
  here : el cur k = el l a
  out : ∀ p : Int, 0 ≤ p → p < l.length → (p < a ∨ k < p) → el cur p = el l p
theorem ShL.start {l : List Int} {a : Int} : ShL l l a a := ⟨rfl, fun p h1 h2 => by omega, rfl, fun _ _ _ _ => rfl⟩
theorem ShL.step {l cur : List Int} {a k : Int} (h : ShL l cur a k) (ha : 0 ≤ a) (hk : a ≤ k) (hk1 : k + 1 < l.length) : ShL l ((cur.set k.toNat (el cur (k + 1))).set (k + 1).toNat (el cur k)) a (k + 1) := by
  have hl := h.len
  refine ⟨by simp [hl], fun p h1 h2 => ?_, ?_, fun p h0 h1 h2 => ?_⟩
  · rw [el2 (by omega) (by omega) (by omega) (by omega) (by omega), if_neg (by omega)]
    by_cases e : p = k
    · rw [if_pos e, e]; exact h.out (k + 1) (by omega) (by omega) (by omega)
    · rw [if_neg e]; exact h.mov p h1 (by omega)
  · rw [el2 (by omega) (by omega) (by omega) (by omega) (by omega), if_pos rfl]; exact h.here
  · rw [el2 (by omega) (by omega) (by omega) (by omega) (by omega), if_neg (by omega), if_neg (by omega)]; exact h.out p h0 h1 (by omega)
theorem ShL.done {wd : Int → Int} {l cur : List Int} {a b i : Int} (h : ShL l cur a (i - 1)) (ha : 0 ≤ a) (hi : a + 1 ≤ i) (hib : i ≤ b) (hb : b ≤ l.length) (hs : SrtR wd l (a + 1) b) (h1 : ∀ k : Int, a + 1 ≤ k → k < i → ltW wd (el l k) (el l a)) (h2 : ∀ k : Int, i ≤ k → k < b → ltW wd (el l a) (el l k)) : SrtR wd cur a b ∧ Frm l cur a b := by
  refine ⟨fun p q hp hpq hq => ?_, h.len, fun k k0 k1 hk => h.out k k0 k1 (by omega), fun k k0 k1 => ?_⟩
  · by_cases p1 : p < i - 1
    · rw [h.mov p hp p1]
      by_cases q1 : q < i - 1
      · rw [h.mov q (by omega) q1]; exact hs _ _ (by omega) (by omega) (by omega)
      · by_cases q2 : q = i - 1
        · rw [q2, h.here]; exact h1 _ (by omega) (by omega)
        · rw [h.out q (by omega) (by omega) (by omega)]; exact hs _ _ (by omega) (by omega) (by omega)
    · rw [h.out q (by omega) (by omega) (by omega)]
      by_cases p2 : p = i - 1
      · rw [p2, h.here]; exact h2 _ (by omega) (by omega)
      · rw [h.out p (by omega) (by omega) (by omega)]; exact hs _ _ (by omega) (by omega) (by omega)
  · by_cases p1 : k < i - 1
    · exact ⟨k + 1, by omega, by omega, h.mov k k0 p1⟩
    · by_cases p2 : k = i - 1
      · exact ⟨a, by omega, by omega, by rw [p2, h.here]⟩
      · exact ⟨k, k0, k1, h.out k (by omega) (by omega) (by omega)⟩
structure ShR (l cur : List Int) (m k : Int) : Prop where
  len : cur.length = l.length
  mov : ∀ p : Int, k < p → p ≤ m → el cur p = el l (p - 1)
  here : el cur k = el l m
  out : ∀ p : Int, 0 ≤ p → p < l.length → (p < k ∨ m < p) → el cur p = el l p
theorem ShR.start {l : List Int} {m : Int} : ShR l l m m := ⟨rfl, fun p h1 h2 => by omega, rfl, fun _ _ _ _ => rfl⟩
theorem ShR.step {l cur : List Int} {m k : Int} (h : ShR l cur m k) (hk : 0 < k) (hkm : k ≤ m) (hm : m < l.length) : ShR l ((cur.set k.toNat (el cur (k - 1))).set (k - 1).toNat (el cur k)) m (k - 1) := by
  have hl := h.len
  refine ⟨by simp [hl], fun p h1 h2 => ?_, ?_, fun p h0 h1 h2 => ?_⟩
  · rw [el2 (by omega) (by omega) (by omega) (by omega) (by omega), if_neg (by omega)]
    by_cases e : p = k
    · rw [if_pos e, e]; exact h.out (k - 1) (by omega) (by omega) (by omega)
    · rw [if_neg e]; exact h.mov p (by omega) h2
  · rw [el2 (by omega) (by omega) (by omega) (by omega) (by omega), if_pos rfl]; exact h.here
  · rw [el2 (by omega) (by omega) (by omega) (by omega) (by omega), if_neg (by omega), if_neg (by omega)]; exact h.out p h0 h1 (by omega)
theorem ShR.done {wd : Int → Int} {l cur : List Int} {a m i : Int} (h : ShR l cur m i) (ha : 0 ≤ a) (hi : a ≤ i) (him : i ≤ m) (hb : m < l.length) (hs : SrtR wd l a m) (h1 : ∀ k : Int, a ≤ k → k < i → ltW wd (el l k) (el l m)) (h2 : ∀ k : Int, i ≤ k → k < m → ltW wd (el l m) (el l k)) : SrtR wd cur a (m + 1) ∧ Frm l cur a (m + 1) := by
  refine ⟨fun p q hp hpq hq => ?_, h.len, fun k k0 k1 hk => h.out k k0 k1 (by omega), fun k k0 k1 => ?_⟩
  · by_cases p1 : p < i
    · rw [h.out p (by omega) (by omega) (by omega)]
      by_cases q1 : q < i
      · rw [h.out q (by omega) (by omega) (by omega)]; exact hs _ _ (by omega) (by omega) (by omega)
      · by_cases q2 : q = i
        · rw [q2, h.here]; exact h1 _ (by omega) (by omega)
        · rw [h.mov q (by omega) (by omega)]; exact hs _ _ (by omega) (by omega) (by omega)
    · rw [h.mov q (by omega) (by omega)]
      by_cases p2 : p = i
      · rw [p2, h.here]; exact h2 _ (by omega) (by omega)
      · rw [h.mov p (by omega) (by omega)]; exact hs _ _ (by omega) (by omega) (by omega)
  · by_cases p1 : k < i
    · exact ⟨k, k0, k1, h.out k (by omega) (by omega) (by omega)⟩
    · by_cases p2 : k = i
      · exact ⟨m, by omega, by omega, by rw [p2, h.here]⟩
      · exact ⟨k - 1, by omega, by omega, h.mov k (by omega) (by omega)⟩

/-! ### Merging in place -/
/-- Where to cut: what is found by halving. -/
structure CutI (wd : Int → Int) (l : List Int) (n s0 r0 s r : Int) : Prop where
  rng : s0 ≤ s ∧ s ≤ r ∧ r ≤ r0
  lo : ∀ c : Int, s0 ≤ c → c < s → ltW wd (el l c) (el l (n - 1 - c))
  hi : ∀ c : Int, r ≤ c → c < r0 → ltW wd (el l (n - 1 - c)) (el l c)
theorem merge_cut {wd : Int → Int} {l l1 : List Int} {a m b mid n s0 r0 s e : Int} (ha : 0 ≤ a) (ham : a < m) (hmb : m < b) (hb : b ≤ l.length) (hmid : mid = (a + b) / 2) (hn : n = mid + m)
    (hs0 : (mid < m ∧ s0 = n - b ∧ r0 = mid) ∨ (m ≤ mid ∧ s0 = a ∧ r0 = m)) (hc : CutI wd l n s0 r0 s s) (he : e = n - s) (hL : SrtR wd l a m) (hR : SrtR wd l m b) (hlr : LRn l a m b)
    (hl1 : l1.length = l.length) (h1 : ∀ k : Int, 0 ≤ k → k < l.length → el l1 k = rotF l s m e k) :
    (a ≤ s ∧ s ≤ mid ∧ mid ≤ e ∧ e ≤ b ∧ s ≤ m ∧ m ≤ e) ∧ SrtR wd l1 a s ∧ SrtR wd l1 s mid ∧ SrtR wd l1 mid e ∧ SrtR wd l1 e b ∧ LRn l1 a s mid ∧ LRn l1 mid e b ∧ (∀ i j : Int, a ≤ i → i < mid → mid ≤ j → j < b → ltW wd (el l1 i) (el l1 j)) ∧ Frm l l1 a b := by
  obtain ⟨⟨c1, _, c2⟩, c3, c4⟩ := hc
  have hrng : a ≤ s ∧ s ≤ mid ∧ mid ≤ e ∧ e ≤ b ∧ s ≤ m ∧ m ≤ e := by omega
  obtain ⟨q1, q2, q3, q4, q5, q6⟩ := hrng
  have hsum : s + (e - m) = mid := by omega
  have A : ∀ k : Int, 0 ≤ k → k < s → el l1 k = el l k := fun k k0 k1 => by rw [h1 k k0 (by omega)]; unfold rotF; rw [if_neg (by omega), if_neg (by omega)]
  have B : ∀ k : Int, s ≤ k → k < mid → el l1 k = el l (k + (m - s)) := fun k k0 k1 => by rw [h1 k (by omega) (by omega)]; unfold rotF; rw [if_pos (by omega)]
  have C : ∀ k : Int, mid ≤ k → k < e → el l1 k = el l (k - (e - m)) := fun k k0 k1 => by rw [h1 k (by omega) (by omega)]; unfold rotF; rw [if_neg (by omega), if_pos (by omega)]
  have D : ∀ k : Int, e ≤ k → k < l.length → el l1 k = el l k := fun k k0 k1 => by rw [h1 k (by omega) k1]; unfold rotF; rw [if_neg (by omega), if_neg (by omega)]
  refine ⟨⟨q1, q2, q3, q4, q5, q6⟩, fun i j hi hij hj => ?_, fun i j hi hij hj => ?_, fun i j hi hij hj => ?_, fun i j hi hij hj => ?_, fun i j hi hi2 hj hj2 => ?_, fun i j hi hi2 hj hj2 => ?_, fun i j hi hi2 hj hj2 => ?_, hl1, fun k k0 k1 hk => ?_, fun k k0 k1 => ?_⟩
  · rw [A i (by omega) (by omega), A j (by omega) hj]; exact hL i j hi hij (by omega)
  · rw [B i hi (by omega), B j (by omega) hj]; exact hR _ _ (by omega) (by omega) (by omega)
  · rw [C i hi (by omega), C j (by omega) hj]; exact hL _ _ (by omega) (by omega) (by omega)
  · rw [D i hi (by omega), D j (by omega) (by omega)]; exact hR _ _ (by omega) (by omega) (by omega)
  · rw [A i (by omega) hi2, B j hj hj2]; exact hlr _ _ hi (by omega) (by omega) (by omega)
  · rw [C i hi hi2, D j hj (by omega)]; exact hlr _ _ (by omega) (by omega) (by omega) (by omega)
  · by_cases i1 : i < s
    · rw [A i (by omega) i1]
      by_cases j1 : j < e
      · rw [C j hj j1]; exact hL _ _ hi (by omega) (by omega)
      · rw [D j (by omega) (by omega)]
        have hx := c3 (s - 1) (by omega) (by omega)
        rw [show n - 1 - (s - 1) = e by omega] at hx
        exact hL.le hi (by omega) (by omega) (hR.ge (by omega) (by omega) hj2 hx)
    · rw [B i (by omega) hi2]
      by_cases j1 : j < e
      · rw [C j hj j1]
        have hx := c4 s (by omega) (by omega)
        rw [show n - 1 - s = e - 1 by omega] at hx
        exact hR.le (by omega) (by omega) (by omega) (hL.ge (by omega) (by omega) (by omega) hx)
      · rw [D j (by omega) (by omega)]; exact hR _ _ (by omega) (by omega) hj2
  · by_cases c : k < a
    · exact A k k0 (by omega)
    · exact D k (by omega) k1
  · by_cases i1 : k < s
    · exact ⟨k, k0, k1, A k (by omega) i1⟩
    · by_cases i2 : k < mid
      · exact ⟨_, by omega, by omega, B k (by omega) i2⟩
      · by_cases i3 : k < e
        · exact ⟨_, by omega, by omega, C k (by omega) i3⟩
        · exact ⟨k, k0, k1, D k (by omega) (by omega)⟩
theorem merge_end {wd : Int → Int} {l l1 l2 l3 : List Int} {a mid b : Int} (ha : 0 ≤ a) (h1 : a ≤ mid) (h2 : mid ≤ b) (hb : b ≤ l.length) (hf1 : Frm l l1 a b) (hx : ∀ i j : Int, a ≤ i → i < mid → mid ≤ j → j < b → ltW wd (el l1 i) (el l1 j))
    (hf2 : Frm l1 l2 a mid) (hs2 : SrtR wd l2 a mid) (hf3 : Frm l2 l3 mid b) (hs3 : SrtR wd l3 mid b) : SrtR wd l3 a b ∧ Frm l l3 a b := by
  have n1 := hf1.len
  have n2 := hf2.len
  have n3 := hf3.len
  refine ⟨(hf3.srt hs2 ha (by omega) (.inl (Int.le_refl _))).cat hs3 fun i j hi hi2 hj hj2 => ?_, hf1.trans ((hf2.wide ha (Int.le_refl _) h2 (by omega)).trans (hf3.wide ha h1 (Int.le_refl _) (by omega)))⟩
  rw [hf3.out i (by omega) (by omega) (.inl hi2)]
  obtain ⟨p, p0, p1, ep⟩ := hf2.src i hi hi2
  obtain ⟨q, q0, q1, eq⟩ := hf3.src j hj hj2
  rw [ep, eq, hf2.out q (by omega) (by omega) (.inr q0)]
  exact hx p q p0 p1 q0 q1
theorem rot_none {l : List Int} {s m e : Int} (h : s = m ∨ m = e) : ∀ k : Int, 0 ≤ k → k < l.length → el l k = rotF l s m e k := fun k _ _ => by
  unfold rotF
  rcases h with h | h
  · subst h
    by_cases c : s ≤ k ∧ k < s + (e - s)
    · rw [if_pos c]; congr 1; omega
    · rw [if_neg c, if_neg (by omega)]
  · subst h
    rw [if_neg (by omega)]
    by_cases c : s + (m - m) ≤ k ∧ k < m
    · rw [if_pos c]; congr 1; omega
    · rw [if_neg c]

/-! ### The whole: blocks, then merges of blocks -/
/-- Up to 'n' sorted in blocks of 'bs' from the block 'q0' on; each block's numbers lie within its own range. -/
structure BlkS (wd : Int → Int) (l : List Int) (bs n q0 q1 : Int) : Prop where
  srt : ∀ q : Int, q0 ≤ q → q < q1 → q * bs < n → SrtR wd l (q * bs) (min ((q + 1) * bs) n)
  own : ∀ q : Int, q0 ≤ q → q < q1 → q * bs < n → ∀ k : Int, q * bs ≤ k → k < min ((q + 1) * bs) n → q * bs ≤ el l k ∧ el l k < min ((q + 1) * bs) n
end Go.Wk
