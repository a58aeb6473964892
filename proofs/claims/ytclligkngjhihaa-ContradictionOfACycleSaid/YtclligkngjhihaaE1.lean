/-
  Walks of the functions, printed by a program out of the code and the loops' relations.
-/
import Derived.Test.YtclligkngjhihaaWkD
import Derived.Test.YtclligkngjhihaaProg
import Derived.KernelRfl
import Derived.Test.YtclligkngjhihaaSx
import Derived.Test.YtclligkngjhihaaB1
import Derived.Test.YtclligkngjhihaaB4
namespace Go.Proofs.Ytclligkngjhihaa
open Go.Wk Go.RowKit
set_option linter.unusedVariables false
set_option linter.unusedSimpArgs false
theorem cl51 : Callable Try.prog 51 := ⟨Try.call51⟩
theorem cl84 : Callable Try.prog 84 := ⟨Try.call84⟩
theorem cl85 : Callable Try.prog 85 := ⟨Try.call85⟩
theorem cl86 : Callable Try.prog 86 := ⟨Try.call86⟩
theorem sl118 : SliceOf Try.prog 118 3 1 := ⟨Try.underlying118, Try.sizeOf3⟩

theorem fillU {n k : Nat} {l : List Int} (hl : l.length = n) (hk : k < n) (h : ∀ p : Nat, p < k → el l p = p) : ∀ p : Nat, p < k + 1 → el (l.set (k : Int).toNat (k : Int)) p = p := by
  intro p hp
  by_cases e : p = k
  · subst e; exact elSetS (by omega) (by omega)
  · rw [elSetN (by omega) (by omega) (by omega)]; exact h p (by omega)
/-- The list's entries are the classes' names. -/
def RootOf (n : Nat) (l : List Int) (R : Int → Int) : Prop := l.length = n ∧ ∀ i : Int, 0 ≤ i → i < n → el l i = R i
theorem RootOf.start {n : Nat} {l : List Int} (hl : l.length = n) (h : ∀ p : Nat, p < n → el l p = p) : RootOf n l (fun x => x) := ⟨hl, fun i h0 h1 => by
  have := h i.toNat (by omega)
  rwa [Int.toNat_of_nonneg h0] at this⟩
/-- The first 'k' entries have got their new names. -/
def NameTo (n k : Nat) (l : List Int) (R : Int → Int) (a b : Int) : Prop := l.length = n ∧ ∀ i : Int, 0 ≤ i → i < n → el l i = if i < k then nameR R a b i else R i
theorem NameTo.start {n : Nat} {l : List Int} {R : Int → Int} {a b : Int} (h : RootOf n l R) : NameTo n 0 l R a b := ⟨h.1, fun i h0 h1 => by rw [if_neg (by omega)]; exact h.2 i h0 h1⟩
theorem NameTo.put {n k : Nat} {l : List Int} {R : Int → Int} {a b : Int} (h : NameTo n k l R a b) (hk : k < n) (he : el l (k : Int) = R b) : NameTo n (k + 1) (l.set (k : Int).toNat (R a)) R a b := by
  refine ⟨by simpa using h.1, fun i h0 h1 => ?_⟩
  have hl := h.1
  have hk' := h.2 k (by omega) (by omega)
  rw [if_neg (by omega)] at hk'
  by_cases e : i = k
  · subst e; rw [elSetS h0 (by omega), if_pos (by omega)]; unfold nameR; rw [if_pos (by rw [← hk']; exact he)]
  · rw [elSetN (by omega) h0 e, h.2 i h0 h1]
    by_cases q : i < k
    · rw [if_pos q, if_pos (by omega)]
    · rw [if_neg q, if_neg (by omega)]
theorem NameTo.skip {n k : Nat} {l : List Int} {R : Int → Int} {a b : Int} (h : NameTo n k l R a b) (hk : k < n) (he : ¬ el l (k : Int) = R b) : NameTo n (k + 1) l R a b := by
  refine ⟨h.1, fun i h0 h1 => ?_⟩
  have hk' := h.2 k (by omega) (by omega)
  rw [if_neg (by omega)] at hk'
  rw [h.2 i h0 h1]
  by_cases e : i = k
  · subst e; rw [if_neg (by omega), if_pos (by omega)]; unfold nameR; rw [if_neg (by rw [← hk']; exact he)]
  · by_cases q : i < k
    · rw [if_pos q, if_pos (by omega)]
    · rw [if_neg q, if_neg (by omega)]
theorem NameTo.done {n k : Nat} {l : List Int} {R : Int → Int} {a b : Int} (h : NameTo n k l R a b) (hk : ¬ (k : Int) < n) : RootOf n l (nameR R a b) := ⟨h.1, fun i h0 h1 => by rw [h.2 i h0 h1, if_pos (by omega)]⟩
theorem name_same {R : Int → Int} {a b : Int} (h : R a = R b) : nameR R a b = R := by
  funext x; unfold nameR; split
  · rename_i e; rw [e, h]
  · rfl
/-- The number that an event's component gets, found among the events before it. -/
def Among (K : Int → Int → Bool) (c : List Int) (i q : Nat) (x : Int) : Prop := (∀ j : Nat, j < q → K (j : Int) (i : Int) = true → x = el c j) ∧ ((∀ j : Nat, j < q → K (j : Int) (i : Int) = false) → x = -1)
theorem Among.start {K : Int → Int → Bool} {c : List Int} {i : Nat} : Among K c i 0 (-1) := ⟨fun j hj => by omega, fun _ => rfl⟩
theorem Among.skip {K : Int → Int → Bool} {c : List Int} {i q : Nat} {x : Int} (h : Among K c i q x) (hk : K (q : Int) (i : Int) = false) : Among K c i (q + 1) x := by
  refine ⟨fun j hj hK => ?_, fun ha => h.2 fun j hj => ha j (by omega)⟩
  by_cases e : j = q
  · subst e; rw [hk] at hK; cases hK
  · exact h.1 j (by omega) hK
/-- Events of one class have one number. -/
theorem comp_eq {n : Nat} {R : Int → Int} {K : Int → Int → Bool} {i : Nat} {c : List Int} (h : CompTo n K i c) (ht : Tells n R K) (hi : i < n) {j q : Nat} (hj : j < i) (hq : q < i) (h1 : K (j : Int) (i : Int) = true) (h2 : K (q : Int) (i : Int) = true) : el c j = el c q := by
  have e1 := (ht j i (by omega) (by omega) (by omega) (by omega)).1 h1
  have e2 := (ht q i (by omega) (by omega) (by omega) (by omega)).1 h2
  rcases Nat.lt_trichotomy j q with e | e | e
  · exact (h.again q j hq e ((ht j q (by omega) (by omega) (by omega) (by omega)).2 (e1.trans e2.symm))).symm
  · rw [e]
  · exact h.again j q hj e ((ht q j (by omega) (by omega) (by omega) (by omega)).2 (e2.trans e1.symm))
theorem Among.put {n : Nat} {R : Int → Int} {K : Int → Int → Bool} {c : List Int} {i q : Nat} {x : Int} (h : Among K c i q x) (hc : CompTo n K i c) (ht : Tells n R K) (hi : i < n) (hq : q < i) (hk : K (q : Int) (i : Int) = true) : Among K c i (q + 1) (el c q) := by
  refine ⟨fun j hj hK => ?_, fun ha => ?_⟩
  · exact comp_eq hc ht hi hq (by omega) hk hK
  · have := ha q (by omega); rw [hk] at this; cases this
theorem Among.neg {n : Nat} {K : Int → Int → Bool} {c : List Int} {i : Nat} {x : Int} (h : Among K c i i x) (hc : CompTo n K i c) : x < 0 ↔ fstB K i = true := by
  constructor
  · intro hx
    cases hf : fstB K i with
    | true => rfl
    | false =>
      obtain ⟨j, hj, hk⟩ := first_no hf
      have := h.1 j hj hk
      have := hc.lt j hj
      omega
  · intro hf
    have := h.2 (fun j hj => first_yes hf hj)
    omega
theorem comp_root {n : Nat} {P : List Int} {R : Int → Int} {K : Int → Int → Bool} {c : List Int} {k : Nat} (h : CompTo n K k c) (hu : UF n P R) (ht : Tells n R K) (hk : k < n) (hr : R (k : Int) < k) : CompTo n K (k + 1) (c.set (k : Int).toNat (el c (R (k : Int)))) := by
  have r0 := hu.rng k (by omega) (by omega)
  have e0 : (((R (k : Int)).toNat : Nat) : Int) = R (k : Int) := Int.toNat_of_nonneg r0.1
  have hK : K (((R (k : Int)).toNat : Nat) : Int) (k : Int) = true := by
    rw [e0]; exact (ht _ _ r0.1 (by omega) (by omega) (by omega)).2 (hu.idem k (by omega) (by omega))
  refine h.put hk (fun hf => ?_) (fun j hj hKj => ?_)
  · have := (hu.first ht hk).1 hf; omega
  · have := comp_eq h ht hk hj (q := (R (k : Int)).toNat) (by omega) hKj hK
    rw [e0] at this; exact this.symm
theorem comp_new {n : Nat} {P : List Int} {R : Int → Int} {K : Int → Int → Bool} {c : List Int} {k : Nat} (h : CompTo n K k c) (hu : UF n P R) (ht : Tells n R K) (hk : k < n) (hr : ¬ R (k : Int) < k) : fstB K k = true ∧ CompTo n K (k + 1) (c.set (k : Int).toNat (cntF K k : Nat)) := by
  have r0 := hu.rng k (by omega) (by omega)
  have hf := (hu.first ht hk).2 (by omega)
  exact ⟨hf, h.put hk (fun _ => rfl) (fun j hj hK => by rw [first_yes hf hj] at hK; cases hK)⟩

set_option maxRecDepth 100000 in
theorem cycles_newPartition_ok (n : Nat) (w : World) (hn : n ≤ 48) : Cal Try.prog 84 [.int .i64 (n : Int)] w (fun v w' => ∃ b P, v = .slice (some ⟨b, 0, none⟩) n n ∧ b = w.heap.size ∧ Ow 3 encI 1 w.heap.size (b + 1) w' (some ⟨b, 0, none⟩) n P ∧ UF n P (fun x => x) ∧ Ext w w') := by
 have hE : Out 0 0 w w := Out.refl _ _ w
 refine enter Try.func84 rfl Try.ntmps84 rfl ?_
 refine wp_seq ?_
 refine rg ?_
 refine st (asS rfl) ?_
 refine rg_end ?_
 refine n_then ?_
 refine wp_seq ?_
 refine rg ?_
 refine st (mvI rfl) ?_
 refine sd (d_make (m := n) (lo := w.heap.size) (enc := encI) (e0 := (0 : Int)) sl118 info3 (fun _ => rfl) rfl rfl rfl (by omega) (by unfold maxLen; omega) (by omega) ?_)
 intro b w1 hbb hs3 ho2 hP
 have hz5 := ho2.size
 replace hE := hE.step ho2 (.inl (Nat.le_refl _))
 refine st (asS rfl) ?_
 refine rg_end ?_
 refine n_then ?_
 refine wp_seq ?_
 refine wp_seq ?_
 refine rg ?_
 refine st (mvS rfl) ?_
 refine st (y_len Try.underlying118 rfl) ?_
 refine st (mvI rfl) ?_
 refine rg_end ?_
 refine n_then ?_
 refine wp_block ?_
 refine lp (γ := Nat × List Int) [4, 9, 10, 11, 12, 13, 14, 15, 16] (fun ⟨k, P⟩ => [(9, .int .i64 (k : Int))]) (fun ⟨k, P⟩ w_ => Out b (b + 1) w1 w_ ∧ k ≤ n ∧ P.length = n ∧ (∀ p : Nat, p < k → el P p = p) ∧ Ow 3 encI 1 w.heap.size (b + 1) w_ (some ⟨b, 0, none⟩) n P) (fun ⟨k, P⟩ => n - k) (0, List.replicate n 0) ⟨rfl, trivial⟩ ⟨Out.refl _ _ _, by omega, by simp, (fun p hp => by omega), hP⟩ ?_
 rintro ⟨k, P⟩ hav_ w6 ⟨ho7, hk, hPl, hfil, hP⟩
 have hlp0 := ho7
 have hz8 := ho7.size
 replace hE := hE.step ho7 (by first | omega | (simp only [blk_some, hi1_some] at *; omega))
 refine wp_seq ?_
 refine rg ?_
 refine st (y_lss rfl rfl) ?_
 refine rg_end ?_
 refine n_then ?_
 refine wp_seq ?_
 refine cnd rfl (fun hc0 => ?_) (fun hc0 => ?_)
 ·
  try simp only [nm] at hc0
  refine wp_skip ?_
  refine n_then ?_
  refine wp_seq ?_
  refine wp_block ?_
  refine wp_seq ?_
  refine rg ?_
  refine st (mvI rfl) ?_
  refine st (asI rfl) ?_
  refine rg_end ?_
  refine n_then ?_
  refine rg ?_
  refine st (mvS rfl) ?_
  refine st (mvI rfl) ?_
  refine st (mvI rfl) ?_
  refine st (y_ix hP.sl sl118 rfl (hPl.symm) rfl (by omega) (by omega)) ?_
  refine sd0 (d_se (j := 0)  hP sz3 rfl rfl rfl (by omega) (by omega) (Nat.le_of_ble_eq_true rfl) rfl ?_)
  intro w9 hs11 ho10 hP'
  have hrhP := hP.rng
  clear hP; have hP := hP'; clear hP'
  have hz12 := ho10.size
  replace hE := hE.step ho10 (by first | omega | (simp only [blk_some, hi1_some] at *; omega))
  replace hlp0 := hlp0.step ho10 (by first | omega | (simp only [blk_some, hi1_some] at *; omega))
  refine rg_end ?_
  refine n_blk ?_
  refine n_then ?_
  refine rg ?_
  refine st (y_add rfl rfl (by omega)) ?_
  refine st (mvI rfl) ?_
  refine rg_end ?_
  exact n_then ⟨(k + 1, _), _, rfl, same_lk rfl (same_h0), ⟨rfl, trivial⟩, ⟨hlp0, by omega, by simp [hPl], fillU hPl (by omega) hfil, hP⟩, by first | omega | (dsimp only; omega)⟩
 ·
  try simp only [nm] at hc0
  refine wp_exit ?_
  refine e_then (e_then (e_blk (?_)))
  refine n_then ?_
  refine wp_seq ?_
  refine rg ?_
  refine st (mvS rfl) ?_
  refine st (asS rfl) ?_
  refine rg_end ?_
  refine n_then ?_
  refine wp_ret ?_
  refine ret1 (v := (.slice _ _ _)) Try.results84 rfl ?_
  exact ⟨b, P, rfl, hbb, hP, UF.start hPl (fun p hp => hfil p (by omega)), hE⟩

set_option maxRecDepth 100000 in
theorem cycles_find_ok (n : Nat) (P : List Int) (R : Int → Int) (ap : Option Addr) (cp lo hi : Nat) (i : Int) (w : World) (hP : Ints lo hi w ap P) (hu : UF n P R) (i0 : 0 ≤ i) (i1 : i < n) : Cal Try.prog 86 [.slice ap n cp, .int .i64 i] w (fun v w' => v = .int .i64 (R i) ∧ Ext w w') := by
 have hPl := hu.len
 have hE : Out 0 0 w w := Out.refl _ _ w
 refine enter Try.func86 rfl Try.ntmps86 rfl ?_
 refine wp_seq ?_
 refine rg ?_
 refine st (asI rfl) ?_
 refine rg_end ?_
 refine n_then ?_
 refine wp_seq ?_
 refine wp_block ?_
 refine lp (γ := Int) [1, 5, 6, 7, 8, 9, 10, 11, 12, 13, 14] (fun c => [(1, .int .i64 c)]) (fun c w_ => Ext w w_ ∧ 0 ≤ c ∧ c < n ∧ R c = R i) (fun c => c.toNat) i ⟨rfl, trivial⟩ ⟨Out.refl _ _ _, i0, i1, rfl⟩ ?_
 rintro c hav_ w1 ⟨ho2, c0, c1, hc⟩
 have hlp0 := ho2
 have hz3 := ho2.size
 replace hP := hP.ext ho2
 replace hE := hE.step ho2 (.inl (Nat.le_refl _))
 refine wp_seq ?_
 refine wp_seq ?_
 refine rg ?_
 refine st (mvS rfl) ?_
 refine st (mvI rfl) ?_
 refine st (y_ix hP sl118 rfl (hPl.symm) rfl (by omega) (by omega)) ?_
 refine st (y_le hP na3 rfl (by omega) (by omega) rfl) ?_
 refine st (mvI rfl) ?_
 refine st (y_neq rfl rfl) ?_
 refine rg_end ?_
 refine n_then ?_
 refine cnd rfl (fun hc0 => ?_) (fun hc0 => ?_)
 ·
  try simp only [nm] at hc0
  have hlw := hu.low c c0 c1
  have hst := hu.step c c0 c1
  refine wp_skip ?_
  refine n_then ?_
  refine wp_block ?_
  refine rg ?_
  refine st (mvS rfl) ?_
  refine st (mvI rfl) ?_
  refine st (y_ix hP sl118 rfl (hPl.symm) rfl (by omega) (by omega)) ?_
  refine st (y_le hP na3 rfl (by omega) (by omega) rfl) ?_
  refine st (asI rfl) ?_
  refine rg_end ?_
  refine n_blk ?_
  exact n_then ⟨(el P c), _, rfl, same_lk rfl (same_h0), ⟨rfl, trivial⟩, ⟨hlp0, by omega, by omega, by omega⟩, by first | omega | (dsimp only; omega)⟩
 ·
  try simp only [nm] at hc0
  have hrt := hu.root c c0 c1 hc0
  refine wp_exit ?_
  refine e_then (e_then (e_blk (?_)))
  refine n_then ?_
  refine wp_seq ?_
  refine rg ?_
  refine st (mvI rfl) ?_
  refine st (asI rfl) ?_
  refine rg_end ?_
  refine n_then ?_
  refine wp_ret ?_
  refine ret1 (v := (.int .i64 _)) Try.results86 rfl ?_
  exact ⟨vi (by omega), hE⟩

set_option maxRecDepth 100000 in
theorem cycles_join_ok (n : Nat) (P : List Int) (R : Int → Int) (ap : Option Addr) (cp lo hi : Nat) (i j : Int) (w : World) (hP : Ow 3 encI 1 lo hi w ap cp P) (hu : UF n P R) (i0 : 0 ≤ i) (i1 : i < n) (j0 : 0 ≤ j) (j1 : j < n) : Cal Try.prog 85 [.slice ap n cp, .int .i64 i, .int .i64 j] w (fun v w' => v = .bool (decide (R i ≠ R j)) ∧ Ow 3 encI 1 lo hi w' ap cp (P.set (max (R i) (R j)).toNat (min (R i) (R j))) ∧ Out (blk ap) (hi1 ap) w w') := by
 have hPl := hu.len
 have ri := hu.rng i i0 i1
 have rj := hu.rng j j0 j1
 have hE : Out (blk ap) (hi1 ap) w w := Out.refl _ _ w
 refine enter Try.func85 rfl Try.ntmps85 rfl ?_
 refine wp_seq ?_
 refine rg ?_
 refine st (asB rfl) ?_
 refine rg_end ?_
 refine n_then ?_
 refine wp_seq ?_
 refine rg ?_
 refine st (mvS rfl) ?_
 refine st (mvI rfl) ?_
 refine sc cl86 (cycles_find_ok n P R _ _ _ _ _ _ (Ow.sl hP) hu (by omega) (by omega)) rfl ?_
 rintro v5 w1 ⟨rfl, ho2⟩
 have hz6 := ho2.size
 replace hP := hP.ext ho2
 replace hE := hE.step ho2 (.inl (Nat.le_refl _))
 refine st (mvS rfl) ?_
 refine st (mvI rfl) ?_
 refine sc cl86 (cycles_find_ok n P R _ _ _ _ _ _ (Ow.sl hP) hu (by omega) (by omega)) rfl ?_
 rintro v11 w7 ⟨rfl, ho8⟩
 have hz12 := ho8.size
 replace hP := hP.ext ho8
 replace hE := hE.step ho8 (.inl (Nat.le_refl _))
 refine st (asI rfl) ?_
 refine st (asI rfl) ?_
 refine rg_end ?_
 refine n_then ?_
 refine wp_seq ?_
 refine rg ?_
 refine st (mvS rfl) ?_
 refine st (mvI rfl) ?_
 refine st (mvI rfl) ?_
 refine st (y_max rfl rfl) ?_
 refine st (mvI rfl) ?_
 refine st (mvI rfl) ?_
 refine st (y_min rfl rfl) ?_
 refine st (y_ix hP.sl sl118 rfl (hPl.symm) rfl (by omega) (by omega)) ?_
 refine sd0 (d_se (j := 0) (e' := min (R i) (R j)) hP sz3 rfl rfl rfl (by omega) (by omega) (Nat.le_of_ble_eq_true rfl) rfl ?_)
 intro w13 hs15 ho14 hP'
 have hrhP := hP.rng
 clear hP; have hP := hP'; clear hP'
 have hz16 := ho14.size
 replace hE := hE.step ho14 (by first | omega | (simp only [blk_some, hi1_some] at *; omega))
 refine rg_end ?_
 refine n_then ?_
 refine wp_seq ?_
 refine rg ?_
 refine st (mvI rfl) ?_
 refine st (mvI rfl) ?_
 refine st (y_neq rfl rfl) ?_
 refine st (asB rfl) ?_
 refine rg_end ?_
 refine n_then ?_
 refine wp_ret ?_
 refine ret1 (v := (.bool _)) Try.results85 rfl ?_
 exact ⟨rfl, hP, hE⟩

set_option maxHeartbeats 1000000 in
set_option maxRecDepth 100000 in
theorem cycles_Components_ok (N : Net) (A : NetA) (lo hi : Nat) (w : World) (hN : NetIn lo hi w N A)  : Cal Try.prog 82 [netV N A] w (fun v w' => ∃ ad c l, v = .slice ad l.length c ∧ Ints w.heap.size w'.heap.size w' ad l ∧ (netOk N = false → l = []) ∧ (netOk N = true → CompTo N.evs.length (conB N.acts) N.evs.length l) ∧ Ext w w') := by
 replace hN := hN.full
 have hE : Out 0 0 w w := Out.refl _ _ w
 refine enter Try.func82 rfl Try.ntmps82 rfl ?_
 refine wp_seq ?_
 refine rg ?_
 refine sd (d_boxA rfl ?_)
 intro b1 w1 hbb1 hs3 ho2 hb1
 have hz4 := ho2.size
 replace hN := hN.ext ho2
 replace hE := hE.step ho2 (.inl (Nat.le_refl _))
 refine st (asS rfl) ?_
 refine rg_end ?_
 refine n_then ?_
 refine wp_seq ?_
 refine wp_seq ?_
 refine rg ?_
 refine st (y_lbN hb1 agg26 rfl) ?_
 refine sc cl34 (network_Check_ok N A _ _ _ hN) rfl ?_
 rintro v9 w5 ⟨rfl, ho6⟩
 have hz10 := ho6.size
 replace hN := hN.ext ho6
 replace hE := hE.step ho6 (.inl (Nat.le_refl _))
 replace hb1 := hb1.ext ho6
 refine st (y_not rfl) ?_
 refine rg_end ?_
 refine n_then ?_
 refine cnd rfl (fun hc0 => ?_) (fun hc0 => ?_)
 ·
  try simp only [nm] at hc0
  refine wp_seq ?_
  refine rg ?_
  refine st (asS rfl) ?_
  refine rg_end ?_
  refine n_then ?_
  refine wp_ret ?_
  refine r_then (ret1 (v := (.slice _ _ _)) Try.results82 rfl ?_)
  exact ⟨none, 0, [], rfl, ⟨fun h => absurd rfl h, fun i x hx => by simp at hx⟩, fun _ => rfl, (fun h => by rw [hc0] at h; cases h), hE⟩
 ·
  try simp only [nm] at hc0
  have hok := netOk_iff.1 hc0
  have hne := hok.ev
  have hna := hok.ac
  refine wp_skip ?_
  refine n_then ?_
  refine wp_seq ?_
  refine rg ?_
  refine st (y_fld fld26_1 rfl) ?_
  refine st (y_lb hb1 na23 rfl rfl) ?_
  refine st (y_len Try.underlying23 rfl) ?_
  refine sc cl84 (cycles_newPartition_ok N.evs.length _ (by omega)) rfl ?_
  rintro v15 w11 ⟨bp, P0, rfl, hbp, hP, hu0, ho12⟩
  have hPl0 := hu0.len
  have hPr := hP.rng
  have hz16 := ho12.size
  replace hN := hN.ext ho12
  replace hE := hE.step ho12 (.inl (Nat.le_refl _))
  replace hb1 := hb1.ext ho12
  refine st (asS rfl) ?_
  refine rg_end ?_
  refine n_then ?_
  refine wp_seq ?_
  refine wp_seq ?_
  refine rg ?_
  refine st (y_fld fld26_2 rfl) ?_
  refine st (y_lb hb1 na24 rfl rfl) ?_
  refine st (y_len Try.underlying24 rfl) ?_
  refine st (mvI rfl) ?_
  refine rg_end ?_
  refine n_then ?_
  refine wp_block ?_
  refine lp (γ := Nat × List Int × (Int → Int)) [5, 20, 21, 22, 23, 24, 25, 26, 27, 28, 29, 30] (fun ⟨k, P, R⟩ => [(20, .int .i64 (k : Int))]) (fun ⟨k, P, R⟩ w_ => Out bp (bp + 1) w11 w_ ∧ (k : Int) ≤ N.acts.length ∧ UF N.evs.length P R ∧ Tells N.evs.length R (conB (N.acts.take k)) ∧ Ow 3 encI 1 w.heap.size (bp + 1) w_ (some ⟨bp, 0, none⟩) N.evs.length P) (fun ⟨k, P, R⟩ => N.acts.length - k) (0, P0, fun x => x) ⟨rfl, trivial⟩ ⟨Out.refl _ _ _, by simp, hu0, by simpa [conB] using Tells.start _, hP.lower (by omega)⟩ ?_
  rintro ⟨k, P, R⟩ hav_ w17 ⟨ho18, hk, hu, ht, hP⟩
  have hlp0 := ho18
  have hz19 := ho18.size
  replace hN := hN.out ho18 (by first | omega | (simp only [blk_some, hi1_some] at *; omega))
  replace hE := hE.step ho18 (by first | omega | (simp only [blk_some, hi1_some] at *; omega))
  replace hb1 := hb1.out ho18 (by first | omega | (simp only [blk_some, hi1_some] at *; omega))
  refine wp_seq ?_
  refine rg ?_
  refine st (y_lss rfl rfl) ?_
  refine rg_end ?_
  refine n_then ?_
  refine wp_seq ?_
  refine cnd rfl (fun hc1 => ?_) (fun hc1 => ?_)
  ·
   try simp only [nm] at hc1
   have ha := hok.acs _ (el_mem (l := N.acts) (i := (k : Int)) (by omega) hc1)
   have hPl := hu.len
   have hu1 := hu.join ha.f0 ha.f1 ha.t0 ha.t1
   have ht1 := ht.join ha.f0 ha.f1 ha.t0 ha.t1
   rw [← conB_snoc, ← tkS hc1] at ht1
   refine wp_skip ?_
   refine n_then ?_
   refine wp_seq ?_
   refine wp_block ?_
   refine wp_seq ?_
   refine rg ?_
   refine st (y_ix hN.a sl24 rfl (rfl) rfl (by omega) (by omega)) ?_
   refine st (y_lw hN.a agg36 rfl (by omega) (by omega)) ?_
   refine sd (d_allocA zer36 ?_)
   intro b5 w20 hbb5 hs22 ho21 hb5
   have hz23 := ho21.size
   replace hN := hN.ext ho21
   replace hE := hE.step ho21 (.inl (Nat.le_refl _))
   replace hb1 := hb1.ext ho21
   replace hP := hP.ext ho21
   replace hlp0 := hlp0.step ho21 (.inl (Nat.le_refl _))
   refine sd0 (d_stN hb5 rfl rfl sz36 rfl rfl ?_)
   intro w24 hs26 ho25 hb5'
   clear hb5; have hb5 := hb5'; clear hb5'
   have hz27 := ho25.size
   replace hN := hN.out ho25 (by first | omega | (simp only [blk_some, hi1_some] at *; omega))
   replace hE := hE.step ho25 (by first | omega | (simp only [blk_some, hi1_some] at *; omega))
   replace hb1 := hb1.out ho25 (by first | omega | (simp only [blk_some, hi1_some] at *; omega))
   have hrnhP := hP.rng
   replace hP := hP.out ho25 (by first | omega | (simp only [blk_some, hi1_some] at *; omega))
   replace hlp0 := hlp0.step ho25 (by first | omega | (simp only [blk_some, hi1_some] at *; omega))
   refine rg_end ?_
   refine n_then ?_
   refine rg ?_
   refine st (mvS rfl) ?_
   refine st (y_fld fld36_1 rfl) ?_
   refine st (y_lb hb5 na3 rfl rfl) ?_
   refine st (y_fld fld36_2 rfl) ?_
   refine st (y_lb hb5 na3 rfl rfl) ?_
   refine sc cl85 (cycles_join_ok N.evs.length P R _ _ _ _ _ _ _ hP hu ha.f0 ha.f1 ha.t0 ha.t1) rfl ?_
   rintro v32 w28 ⟨rfl, hP, ho29⟩
   have hz33 := ho29.size
   replace hN := hN.out ho29 (by first | omega | (simp only [blk_some, hi1_some] at *; omega))
   replace hE := hE.step ho29 (by first | omega | (simp only [blk_some, hi1_some] at *; omega))
   replace hb1 := hb1.out ho29 (by first | omega | (simp only [blk_some, hi1_some] at *; omega))
   replace hlp0 := hlp0.step ho29 (by first | omega | (simp only [blk_some, hi1_some] at *; omega))
   replace hb5 := hb5.out ho29 (by first | omega | (simp only [blk_some, hi1_some] at *; omega))
   refine rg_end ?_
   refine n_blk ?_
   refine n_then ?_
   refine rg ?_
   refine st (y_add rfl rfl (by omega)) ?_
   refine st (mvI rfl) ?_
   refine rg_end ?_
   exact n_then ⟨(k + 1, _, _), _, rfl, same_lk rfl (same_h0), ⟨rfl, trivial⟩, ⟨hlp0, by omega, hu1, ht1, hP⟩, by first | omega | (dsimp only; omega)⟩
  ·
   try simp only [nm] at hc1
   rw [tkE hc1] at ht
   have hPl := hu.len
   refine wp_exit ?_
   refine e_then (e_then (e_blk (?_)))
   refine n_then ?_
   refine wp_seq ?_
   refine rg ?_
   refine st (y_fld fld26_1 rfl) ?_
   refine st (y_lb hb1 na23 rfl rfl) ?_
   refine st (y_len Try.underlying23 rfl) ?_
   refine sd (d_make (m := N.evs.length) (lo := w.heap.size) (enc := encI) (e0 := (0 : Int)) sl22 info3 (fun _ => rfl) rfl rfl rfl (by omega) (by unfold maxLen; omega) (by omega) ?_)
   intro bc w34 hbbc hs36 ho35 hC
   have hz38 := ho35.size
   replace hN := hN.ext ho35
   replace hE := hE.step ho35 (.inl (Nat.le_refl _))
   replace hb1 := hb1.ext ho35
   replace hP := hP.ext ho35
   refine st (asS rfl) ?_
   refine rg_end ?_
   refine n_then ?_
   refine wp_seq ?_
   refine rg ?_
   refine st (asI rfl) ?_
   refine rg_end ?_
   refine n_then ?_
   refine wp_seq ?_
   refine wp_seq ?_
   refine rg ?_
   refine st (mvS rfl) ?_
   refine st (y_len Try.underlying22 rfl) ?_
   refine st (mvI rfl) ?_
   refine rg_end ?_
   refine n_then ?_
   refine wp_block ?_
   refine lp (γ := Nat × List Int × Int) [7, 8, 9, 37, 38, 39, 40, 41, 42, 43, 44, 45, 46, 47, 48, 49, 50, 51, 52, 53, 54, 55, 56, 57, 58, 59] (fun ⟨k, c, q⟩ => [(37, .int .i64 (k : Int)), (7, .int .i64 q)]) (fun ⟨k, c, q⟩ w_ => Out bc (bc + 1) w34 w_ ∧ (k : Int) ≤ N.evs.length ∧ CompTo N.evs.length (conB N.acts) k c ∧ q = ((cntF (conB N.acts) k : Nat) : Int) ∧ Ow 3 encI 1 w.heap.size (bc + 1) w_ (some ⟨bc, 0, none⟩) N.evs.length c) (fun ⟨k, c, q⟩ => N.evs.length - k) (0, List.replicate N.evs.length 0, 0) ⟨rfl, rfl, trivial⟩ ⟨Out.refl _ _ _, by simp, CompTo.start (by simp), by simp [cntF], hC⟩ ?_
   rintro ⟨k, c, q⟩ hav_ w39 ⟨ho40, hk, hcm, hq, hC⟩
   have hlp1 := ho40
   have hz41 := ho40.size
   replace hN := hN.out ho40 (by first | omega | (simp only [blk_some, hi1_some] at *; omega))
   replace hE := hE.step ho40 (by first | omega | (simp only [blk_some, hi1_some] at *; omega))
   replace hb1 := hb1.out ho40 (by first | omega | (simp only [blk_some, hi1_some] at *; omega))
   have hrnhP := hP.rng
   replace hP := hP.out ho40 (by first | omega | (simp only [blk_some, hi1_some] at *; omega))
   refine wp_seq ?_
   refine rg ?_
   refine st (y_lss rfl rfl) ?_
   refine rg_end ?_
   refine n_then ?_
   refine wp_seq ?_
   refine cnd rfl (fun hc2 => ?_) (fun hc2 => ?_)
   ·
    try simp only [nm] at hc2
    have hcl := hcm.len
    have hr0 := hu.rng k (by omega) (by omega)
    have hcn := cntF_le (conB N.acts) k
    refine wp_skip ?_
    refine n_then ?_
    refine wp_seq ?_
    refine wp_block ?_
    refine wp_seq ?_
    refine rg ?_
    refine st (mvI rfl) ?_
    refine st (asI rfl) ?_
    refine rg_end ?_
    refine n_then ?_
    refine wp_seq ?_
    refine rg ?_
    refine st (mvS rfl) ?_
    refine st (mvI rfl) ?_
    refine sc cl86 (cycles_find_ok N.evs.length P R _ _ _ _ _ _ (Ow.sl hP) hu (by omega) (by omega)) rfl ?_
    rintro v46 w42 ⟨rfl, ho43⟩
    have hz47 := ho43.size
    replace hN := hN.ext ho43
    replace hE := hE.step ho43 (.inl (Nat.le_refl _))
    replace hb1 := hb1.ext ho43
    replace hP := hP.ext ho43
    replace hC := hC.ext ho43
    replace hlp1 := hlp1.step ho43 (.inl (Nat.le_refl _))
    refine st (asI rfl) ?_
    refine rg_end ?_
    refine n_then ?_
    refine wp_seq ?_
    refine rg ?_
    refine st (mvI rfl) ?_
    refine st (mvI rfl) ?_
    refine st (y_lss rfl rfl) ?_
    refine rg_end ?_
    refine n_then ?_
    refine cnd rfl (fun hc3 => ?_) (fun hc3 => ?_)
    ·
     try simp only [nm] at hc3
     have hcm1 := comp_root hcm hu ht (by omega) hc3
     have hq1 : (q : Int) = cntF (conB N.acts) (k + 1) := by rw [cntF_succ, if_neg (by rw [(hu.first ht (by omega))]; omega)]; omega
     refine rg ?_
     refine st (mvS rfl) ?_
     refine st (mvI rfl) ?_
     refine st (mvS rfl) ?_
     refine st (mvI rfl) ?_
     refine st (y_ix hC.sl sl22 rfl (hcm.len.symm) rfl (by omega) (by omega)) ?_
     refine st (y_le hC.sl na3 rfl (by omega) (by omega) rfl) ?_
     refine st (y_ix hC.sl sl22 rfl (hcm.len.symm) rfl (by omega) (by omega)) ?_
     refine sd0 (d_se (j := 0) (e' := el c (R (k : Int))) hC sz3 rfl rfl rfl (by omega) (by omega) (Nat.le_of_ble_eq_true rfl) rfl ?_)
     intro w48 hs50 ho49 hC'
     have hrhC := hC.rng
     clear hC; have hC := hC'; clear hC'
     have hz51 := ho49.size
     replace hN := hN.out ho49 (by first | omega | (simp only [blk_some, hi1_some] at *; omega))
     replace hE := hE.step ho49 (by first | omega | (simp only [blk_some, hi1_some] at *; omega))
     replace hb1 := hb1.out ho49 (by first | omega | (simp only [blk_some, hi1_some] at *; omega))
     replace hP := hP.out ho49 (by first | omega | (simp only [blk_some, hi1_some] at *; omega))
     replace hlp1 := hlp1.step ho49 (by first | omega | (simp only [blk_some, hi1_some] at *; omega))
     refine rg_end ?_
     refine n_blk ?_
     refine n_then ?_
     refine rg ?_
     refine st (y_add rfl rfl (by omega)) ?_
     refine st (mvI rfl) ?_
     refine rg_end ?_
     exact n_then ⟨(k + 1, _, _), _, rfl, same_lk rfl (same_h0), ⟨rfl, rfl, trivial⟩, ⟨hlp1, by omega, hcm1, hq1, hC⟩, by first | omega | (dsimp only; omega)⟩
    ·
     try simp only [nm] at hc3
     obtain ⟨hfs, hcm1⟩ := comp_new hcm hu ht (by omega) hc3
     have hq1 : (q : Int) + 1 = cntF (conB N.acts) (k + 1) := by rw [cntF_succ, if_pos hfs]; omega
     rw [← hq] at hcm1
     refine wp_seq ?_
     refine rg ?_
     refine st (mvS rfl) ?_
     refine st (mvI rfl) ?_
     refine st (mvI rfl) ?_
     refine st (y_ix hC.sl sl22 rfl (hcm.len.symm) rfl (by omega) (by omega)) ?_
     refine sd0 (d_se (j := 0) (e' := q) hC sz3 rfl rfl rfl (by omega) (by omega) (Nat.le_of_ble_eq_true rfl) rfl ?_)
     intro w52 hs54 ho53 hC'
     have hrhC := hC.rng
     clear hC; have hC := hC'; clear hC'
     have hz55 := ho53.size
     replace hN := hN.out ho53 (by first | omega | (simp only [blk_some, hi1_some] at *; omega))
     replace hE := hE.step ho53 (by first | omega | (simp only [blk_some, hi1_some] at *; omega))
     replace hb1 := hb1.out ho53 (by first | omega | (simp only [blk_some, hi1_some] at *; omega))
     replace hP := hP.out ho53 (by first | omega | (simp only [blk_some, hi1_some] at *; omega))
     replace hlp1 := hlp1.step ho53 (by first | omega | (simp only [blk_some, hi1_some] at *; omega))
     refine rg_end ?_
     refine n_then ?_
     refine rg ?_
     refine st (mvI rfl) ?_
     refine st (y_add rfl rfl (by omega)) ?_
     refine st (asI rfl) ?_
     refine rg_end ?_
     refine n_blk ?_
     refine n_then ?_
     refine rg ?_
     refine st (y_add rfl rfl (by omega)) ?_
     refine st (mvI rfl) ?_
     refine rg_end ?_
     exact n_then ⟨(k + 1, _, _), _, rfl, same_lk rfl (same_h0), ⟨rfl, rfl, trivial⟩, ⟨hlp1, by omega, hcm1, hq1, hC⟩, by first | omega | (dsimp only; omega)⟩
   ·
    try simp only [nm] at hc2
    refine wp_exit ?_
    refine e_then (e_then (e_blk (?_)))
    refine n_then ?_
    refine wp_seq ?_
    refine rg ?_
    refine st (mvS rfl) ?_
    refine st (asS rfl) ?_
    refine rg_end ?_
    refine n_then ?_
    refine wp_ret ?_
    refine ret1 (v := (.slice _ _ _)) Try.results82 rfl ?_
    have hkn : k = N.evs.length := by omega
    subst hkn
    exact ⟨_, _, c, by rw [hcm.len], Sl.wide hC.sl (Nat.le_refl _) (by omega), (fun h => by rw [hc0] at h; cases h), fun _ => hcm, hE⟩

set_option maxRecDepth 100000 in
theorem ref11_merge_ok (n : Nat) (l : List Int) (R : Int → Int) (ap : Option Addr) (cp lo hi : Nat) (a : Ac) (w : World) (hP : Ow 3 encI 1 lo hi w ap cp l) (hr : RootOf n l R) (hn : n ≤ 48) (f0 : 0 ≤ a.fr) (f1 : a.fr < n) (t0 : 0 ≤ a.tt) (t1 : a.tt < n) : Cal Try.prog 51 [.slice ap n cp, .agg (encAc a).toArray] w (fun v w' => ∃ l', v = .bool (decide (R a.fr ≠ R a.tt)) ∧ l'.length = l.length ∧ Ow 3 encI 1 lo hi w' ap cp l' ∧ RootOf n l' (nameR R a.fr a.tt) ∧ Out (blk ap) (hi1 ap) w w') := by
 have hll := hr.1
 have e1 := hr.2 _ f0 f1
 have e2 := hr.2 _ t0 t1
 have hrn0 := hP.rng
 have hE : Out (blk ap) (hi1 ap) w w := Out.refl _ _ w
 refine enter Try.func51 rfl Try.ntmps51 rfl ?_
 refine wp_seq ?_
 refine rg ?_
 refine sd (d_boxA rfl ?_)
 intro b3 w1 hbb3 hs3 ho2 hb3
 have hz4 := ho2.size
 replace hP := hP.ext ho2
 replace hE := hE.step ho2 (.inl (Nat.le_refl _))
 refine st (asB rfl) ?_
 refine rg_end ?_
 refine n_then ?_
 refine wp_seq ?_
 refine rgD 11 (fun w_ => Ext w1 w_) (fun i => false) mixed (by kernel_rfl) ?_
 intro w5 ho6 hs7
 refine ⟨ho6, ?_⟩
 have hx8 := ho6
 refine tn rfl (fun _ hG => mvS rfl) ?_
 refine tn rfl (fun _ hG => y_fld fld36_1 rfl) ?_
 refine tn rfl (fun _ hG => y_lb (hb3.ext hG) na3 rfl rfl) ?_
 refine tn rfl (fun _ hG => y_ix (hP.ext hG).sl sl22 rfl (hll.symm) rfl (by omega) (by omega)) ?_
 refine tn rfl (fun _ hG => y_le (hP.ext hG).sl na3 rfl (by omega) (by omega) rfl) ?_
 refine tn rfl (fun _ hG => mvS rfl) ?_
 refine tn rfl (fun _ hG => y_fld fld36_2 rfl) ?_
 refine tn rfl (fun _ hG => y_lb (hb3.ext hG) na3 rfl rfl) ?_
 refine tn rfl (fun _ hG => y_ix (hP.ext hG).sl sl22 rfl (hll.symm) rfl (by omega) (by omega)) ?_
 refine tn rfl (fun _ hG => y_le (hP.ext hG).sl na3 rfl (by omega) (by omega) rfl) ?_
 refine tn rfl (fun _ hG => asI rfl) ?_
 refine t_end ?_
 have hz9 := hx8.size
 replace hP := hP.ext hx8
 replace hE := hE.step hx8 (.inl (Nat.le_refl _))
 replace hb3 := hb3.ext hx8
 refine st (asI rfl) ?_
 refine rg_end ?_
 refine n_then ?_
 refine wp_seq ?_
 refine wp_seq ?_
 refine rg ?_
 refine st (mvI rfl) ?_
 refine st (mvI rfl) ?_
 refine st (y_eql rfl rfl) ?_
 refine rg_end ?_
 refine n_then ?_
 refine cnd rfl (fun hc0 => ?_) (fun hc0 => ?_)
 ·
  try simp only [nm] at hc0
  refine wp_seq ?_
  refine rg ?_
  refine st (asB rfl) ?_
  refine rg_end ?_
  refine n_then ?_
  refine wp_ret ?_
  refine r_then (ret1 (v := (.bool _)) Try.results51 rfl ?_)
  have hs : R a.fr = R a.tt := by rw [← e1, ← e2]; exact hc0
  exact ⟨l, vb (by simp [hs]), rfl, hP, by rw [name_same hs]; exact hr, hE⟩
 ·
  try simp only [nm] at hc0
  refine wp_skip ?_
  refine n_then ?_
  refine wp_seq ?_
  refine wp_seq ?_
  refine rg ?_
  refine st (mvS rfl) ?_
  refine st (y_len Try.underlying22 rfl) ?_
  refine st (mvI rfl) ?_
  refine rg_end ?_
  refine n_then ?_
  refine wp_block ?_
  refine lp (γ := Nat × List Int) [7, 23, 24, 25, 26, 27, 28, 29, 30, 31, 32, 33, 34, 35, 36] (fun ⟨k, l2⟩ => [(23, .int .i64 (k : Int))]) (fun ⟨k, l2⟩ w_ => Out (blk ap) (hi1 ap) w5 w_ ∧ (k : Int) ≤ n ∧ NameTo n k l2 R a.fr a.tt ∧ Ow 3 encI 1 lo hi w_ ap cp l2) (fun ⟨k, l2⟩ => n - k) (0, l) ⟨rfl, trivial⟩ ⟨Out.refl _ _ _, by simp, NameTo.start hr, hP⟩ ?_
  rintro ⟨k, l2⟩ hav_ w10 ⟨ho11, hk, hnm, hP⟩
  have hlp0 := ho11
  have hz12 := ho11.size
  replace hE := hE.step ho11 (by first | omega | (simp only [blk_some, hi1_some] at *; omega))
  replace hb3 := hb3.out ho11 (by first | omega | (simp only [blk_some, hi1_some] at *; omega))
  refine wp_seq ?_
  refine rg ?_
  refine st (y_lss rfl rfl) ?_
  refine rg_end ?_
  refine n_then ?_
  refine wp_seq ?_
  refine cnd rfl (fun hc1 => ?_) (fun hc1 => ?_)
  ·
   try simp only [nm] at hc1
   have hll2 := hnm.1
   refine wp_skip ?_
   refine n_then ?_
   refine wp_seq ?_
   refine wp_block ?_
   refine wp_seq ?_
   refine rg ?_
   refine st (mvI rfl) ?_
   refine st (asI rfl) ?_
   refine rg_end ?_
   refine n_then ?_
   refine wp_seq ?_
   refine rg ?_
   refine st (mvS rfl) ?_
   refine st (mvI rfl) ?_
   refine st (y_ix hP.sl sl22 rfl (hnm.1.symm) rfl (by omega) (by omega)) ?_
   refine st (y_le hP.sl na3 rfl (by omega) (by omega) rfl) ?_
   refine st (mvI rfl) ?_
   refine st (y_eql rfl rfl) ?_
   refine rg_end ?_
   refine n_then ?_
   refine cnd rfl (fun hc2 => ?_) (fun hc2 => ?_)
   ·
    try simp only [nm] at hc2
    have hnm1 := hnm.put (by omega) (hc2.trans e2)
    rw [← e1] at hnm1
    refine rg ?_
    refine st (mvS rfl) ?_
    refine st (mvI rfl) ?_
    refine st (mvI rfl) ?_
    refine st (y_ix hP.sl sl22 rfl (hnm.1.symm) rfl (by omega) (by omega)) ?_
    refine sd0 (d_se (j := 0) (e' := el l a.fr) hP sz3 rfl rfl rfl (by omega) (by omega) (Nat.le_of_ble_eq_true rfl) rfl ?_)
    intro w13 hs15 ho14 hP'
    have hrhP := hP.rng
    clear hP; have hP := hP'; clear hP'
    have hz16 := ho14.size
    replace hE := hE.step ho14 (by first | omega | (simp only [blk_some, hi1_some] at *; omega))
    replace hb3 := hb3.out ho14 (by first | omega | (simp only [blk_some, hi1_some] at *; omega))
    replace hlp0 := hlp0.step ho14 (by first | omega | (simp only [blk_some, hi1_some] at *; omega))
    refine rg_end ?_
    refine n_blk ?_
    refine n_then ?_
    refine rg ?_
    refine st (y_add rfl rfl (by omega)) ?_
    refine st (mvI rfl) ?_
    refine rg_end ?_
    exact n_then ⟨(k + 1, _), _, rfl, same_lk rfl (same_h0), ⟨rfl, trivial⟩, ⟨hlp0, by omega, hnm1, hP⟩, by first | omega | (dsimp only; omega)⟩
   ·
    try simp only [nm] at hc2
    have hnm1 := hnm.skip (by omega) (fun h => hc2 (h.trans e2.symm))
    refine wp_skip ?_
    refine n_blk ?_
    refine n_then ?_
    refine rg ?_
    refine st (y_add rfl rfl (by omega)) ?_
    refine st (mvI rfl) ?_
    refine rg_end ?_
    exact n_then ⟨(k + 1, _), _, rfl, same_lk rfl (same_h0), ⟨rfl, trivial⟩, ⟨hlp0, by omega, hnm1, hP⟩, by first | omega | (dsimp only; omega)⟩
  ·
   try simp only [nm] at hc1
   have hrr := hnm.done (by omega)
   refine wp_exit ?_
   refine e_then (e_then (e_blk (?_)))
   refine n_then ?_
   refine wp_seq ?_
   refine rg ?_
   refine st (asB rfl) ?_
   refine rg_end ?_
   refine n_then ?_
   refine wp_ret ?_
   refine ret1 (v := (.bool _)) Try.results51 rfl ?_
   exact ⟨l2, vb (by simp; rw [← e1, ← e2]; exact hc0), by rw [hnm.1, hll], hP, hrr, hE⟩

set_option maxHeartbeats 1000000 in
set_option maxRecDepth 100000 in
theorem ref11_Components_ok (N : Net) (A : NetA) (lo hi : Nat) (w : World) (hN : NetIn lo hi w N A)  : Cal Try.prog 75 [netV N A] w (fun v w' => ∃ ad c l, v = .slice ad l.length c ∧ Ints w.heap.size w'.heap.size w' ad l ∧ (netOk N = false → l = []) ∧ (netOk N = true → CompTo N.evs.length (conB N.acts) N.evs.length l) ∧ Ext w w') := by
 replace hN := hN.full
 have hE : Out 0 0 w w := Out.refl _ _ w
 refine enter Try.func75 rfl Try.ntmps75 rfl ?_
 refine wp_seq ?_
 refine rg ?_
 refine sd (d_boxA rfl ?_)
 intro b1 w1 hbb1 hs3 ho2 hb1
 have hz4 := ho2.size
 replace hN := hN.ext ho2
 replace hE := hE.step ho2 (.inl (Nat.le_refl _))
 refine st (asS rfl) ?_
 refine rg_end ?_
 refine n_then ?_
 refine wp_seq ?_
 refine wp_seq ?_
 refine rg ?_
 refine st (y_lbN hb1 agg26 rfl) ?_
 refine sc cl45 (ref11_Check_ok N A _ _ _ hN) rfl ?_
 rintro v9 w5 ⟨rfl, ho6⟩
 have hz10 := ho6.size
 replace hN := hN.ext ho6
 replace hE := hE.step ho6 (.inl (Nat.le_refl _))
 replace hb1 := hb1.ext ho6
 refine st (y_not rfl) ?_
 refine rg_end ?_
 refine n_then ?_
 refine cnd rfl (fun hc0 => ?_) (fun hc0 => ?_)
 ·
  try simp only [nm] at hc0
  refine wp_seq ?_
  refine rg ?_
  refine st (asS rfl) ?_
  refine rg_end ?_
  refine n_then ?_
  refine wp_ret ?_
  refine r_then (ret1 (v := (.slice _ _ _)) Try.results75 rfl ?_)
  exact ⟨none, 0, [], rfl, ⟨fun h => absurd rfl h, fun i x hx => by simp at hx⟩, fun _ => rfl, (fun h => by rw [hc0] at h; cases h), hE⟩
 ·
  try simp only [nm] at hc0
  have hok := netOk_iff.1 hc0
  have hne := hok.ev
  have hna := hok.ac
  refine wp_skip ?_
  refine n_then ?_
  refine wp_seq ?_
  refine rg ?_
  refine st (y_fld fld26_1 rfl) ?_
  refine st (y_lb hb1 na23 rfl rfl) ?_
  refine st (y_len Try.underlying23 rfl) ?_
  refine sd (d_make (m := N.evs.length) (lo := w.heap.size) (enc := encI) (e0 := (0 : Int)) sl22 info3 (fun _ => rfl) rfl rfl rfl (by omega) (by unfold maxLen; omega) (by omega) ?_)
  intro bp w11 hbbp hs13 ho12 hP
  have hz15 := ho12.size
  replace hN := hN.ext ho12
  replace hE := hE.step ho12 (.inl (Nat.le_refl _))
  replace hb1 := hb1.ext ho12
  refine st (asS rfl) ?_
  refine rg_end ?_
  refine n_then ?_
  refine wp_seq ?_
  refine wp_seq ?_
  refine rg ?_
  refine st (mvS rfl) ?_
  refine st (y_len Try.underlying22 rfl) ?_
  refine st (mvI rfl) ?_
  refine rg_end ?_
  refine n_then ?_
  refine wp_block ?_
  refine lp (γ := Nat × List Int) [4, 19, 20, 21, 22, 23, 24, 25, 26] (fun ⟨k, P⟩ => [(19, .int .i64 (k : Int))]) (fun ⟨k, P⟩ w_ => Out bp (bp + 1) w11 w_ ∧ (k : Int) ≤ N.evs.length ∧ P.length = N.evs.length ∧ (∀ p : Nat, p < k → el P p = p) ∧ Ow 3 encI 1 w.heap.size (bp + 1) w_ (some ⟨bp, 0, none⟩) N.evs.length P) (fun ⟨k, P⟩ => N.evs.length - k) (0, List.replicate N.evs.length 0) ⟨rfl, trivial⟩ ⟨Out.refl _ _ _, by simp, by simp, (fun p hp => by omega), hP⟩ ?_
  rintro ⟨k, P⟩ hav_ w16 ⟨ho17, hk, hPl, hfil, hP⟩
  have hlp0 := ho17
  have hz18 := ho17.size
  replace hN := hN.out ho17 (by first | omega | (simp only [blk_some, hi1_some] at *; omega))
  replace hE := hE.step ho17 (by first | omega | (simp only [blk_some, hi1_some] at *; omega))
  replace hb1 := hb1.out ho17 (by first | omega | (simp only [blk_some, hi1_some] at *; omega))
  refine wp_seq ?_
  refine rg ?_
  refine st (y_lss rfl rfl) ?_
  refine rg_end ?_
  refine n_then ?_
  refine wp_seq ?_
  refine cnd rfl (fun hc1 => ?_) (fun hc1 => ?_)
  ·
   try simp only [nm] at hc1
   refine wp_skip ?_
   refine n_then ?_
   refine wp_seq ?_
   refine wp_block ?_
   refine wp_seq ?_
   refine rg ?_
   refine st (mvI rfl) ?_
   refine st (asI rfl) ?_
   refine rg_end ?_
   refine n_then ?_
   refine rg ?_
   refine st (mvS rfl) ?_
   refine st (mvI rfl) ?_
   refine st (mvI rfl) ?_
   refine st (y_ix hP.sl sl22 rfl (hPl.symm) rfl (by omega) (by omega)) ?_
   refine sd0 (d_se (j := 0)  hP sz3 rfl rfl rfl (by omega) (by omega) (Nat.le_of_ble_eq_true rfl) rfl ?_)
   intro w19 hs21 ho20 hP'
   have hrhP := hP.rng
   clear hP; have hP := hP'; clear hP'
   have hz22 := ho20.size
   replace hN := hN.out ho20 (by first | omega | (simp only [blk_some, hi1_some] at *; omega))
   replace hE := hE.step ho20 (by first | omega | (simp only [blk_some, hi1_some] at *; omega))
   replace hb1 := hb1.out ho20 (by first | omega | (simp only [blk_some, hi1_some] at *; omega))
   replace hlp0 := hlp0.step ho20 (by first | omega | (simp only [blk_some, hi1_some] at *; omega))
   refine rg_end ?_
   refine n_blk ?_
   refine n_then ?_
   refine rg ?_
   refine st (y_add rfl rfl (by omega)) ?_
   refine st (mvI rfl) ?_
   refine rg_end ?_
   exact n_then ⟨(k + 1, _), _, rfl, same_lk rfl (same_h0), ⟨rfl, trivial⟩, ⟨hlp0, by omega, by simp [hPl], fillU hPl (by omega) hfil, hP⟩, by first | omega | (dsimp only; omega)⟩
  ·
   try simp only [nm] at hc1
   have hr0 := RootOf.start hPl (fun p hp => hfil p (by omega))
   refine wp_exit ?_
   refine e_then (e_then (e_blk (?_)))
   refine n_then ?_
   refine wp_seq ?_
   refine wp_seq ?_
   refine rg ?_
   refine st (asI rfl) ?_
   refine rg_end ?_
   refine n_then ?_
   refine wp_block ?_
   refine lp (γ := Nat × List Int × (Int → Int)) [5, 27, 28, 29, 30, 31, 32, 33, 34, 35, 36, 37, 38, 39, 40] (fun ⟨k, P, R⟩ => [(5, .int .i64 (k : Int))]) (fun ⟨k, P, R⟩ w_ => Out bp (bp + 1) w16 w_ ∧ (k : Int) ≤ N.acts.length ∧ RootOf N.evs.length P R ∧ Tells N.evs.length R (conB (N.acts.take k)) ∧ Ow 3 encI 1 w.heap.size (bp + 1) w_ (some ⟨bp, 0, none⟩) N.evs.length P) (fun ⟨k, P, R⟩ => N.acts.length - k) (0, _, fun x => x) ⟨rfl, trivial⟩ ⟨Out.refl _ _ _, by simp, hr0, by simpa [conB] using Tells.start _, hP⟩ ?_
   rintro ⟨k, P, R⟩ hav_ w23 ⟨ho24, hk, hr, ht, hP⟩
   have hlp1 := ho24
   have hz25 := ho24.size
   replace hN := hN.out ho24 (by first | omega | (simp only [blk_some, hi1_some] at *; omega))
   replace hE := hE.step ho24 (by first | omega | (simp only [blk_some, hi1_some] at *; omega))
   replace hb1 := hb1.out ho24 (by first | omega | (simp only [blk_some, hi1_some] at *; omega))
   refine wp_seq ?_
   refine wp_seq ?_
   refine rg ?_
   refine st (mvI rfl) ?_
   refine st (y_fld fld26_2 rfl) ?_
   refine st (y_lb hb1 na24 rfl rfl) ?_
   refine st (y_len Try.underlying24 rfl) ?_
   refine st (y_lss rfl rfl) ?_
   refine rg_end ?_
   refine n_then ?_
   refine cnd rfl (fun hc2 => ?_) (fun hc2 => ?_)
   ·
    try simp only [nm] at hc2
    have ha := hok.acs _ (el_mem (l := N.acts) (i := (k : Int)) (by omega) hc2)
    have hPl := hr.1
    have ht1 := ht.name ha.f0 ha.f1 ha.t0 ha.t1
    rw [← conB_snoc, ← tkS hc2] at ht1
    refine wp_skip ?_
    refine n_then ?_
    refine wp_seq ?_
    refine wp_block ?_
    refine rg ?_
    refine st (mvS rfl) ?_
    refine st (y_fld fld26_2 rfl) ?_
    refine st (y_lb hb1 na24 rfl rfl) ?_
    refine st (mvI rfl) ?_
    refine st (y_ix hN.a sl24 rfl (rfl) rfl (by omega) (by omega)) ?_
    refine st (y_lw hN.a agg36 rfl (by omega) (by omega)) ?_
    refine sc cl51 (ref11_merge_ok N.evs.length P R _ _ _ _ _ _ hP hr (by omega) ha.f0 ha.f1 ha.t0 ha.t1) rfl ?_
    rintro v30 w26 ⟨P', rfl, hP'l, hP, hr1, ho27⟩
    have hz31 := ho27.size
    replace hN := hN.out ho27 (by first | omega | (simp only [blk_some, hi1_some] at *; omega))
    replace hE := hE.step ho27 (by first | omega | (simp only [blk_some, hi1_some] at *; omega))
    replace hb1 := hb1.out ho27 (by first | omega | (simp only [blk_some, hi1_some] at *; omega))
    replace hlp1 := hlp1.step ho27 (by first | omega | (simp only [blk_some, hi1_some] at *; omega))
    refine rg_end ?_
    refine n_blk ?_
    refine n_then ?_
    refine rg ?_
    refine st (mvI rfl) ?_
    refine st (y_add rfl rfl (by omega)) ?_
    refine st (asI rfl) ?_
    refine rg_end ?_
    exact n_then ⟨(k + 1, P', _), _, rfl, same_lk rfl (same_h0), ⟨rfl, trivial⟩, ⟨hlp1, by omega, hr1, ht1, hP⟩, by first | omega | (dsimp only; omega)⟩
   ·
    try simp only [nm] at hc2
    rw [tkE hc2] at ht
    have hPl := hr.1
    refine wp_exit ?_
    refine e_then (e_then (e_blk (?_)))
    refine n_then ?_
    refine wp_seq ?_
    refine rg ?_
    refine st (mvS rfl) ?_
    refine st (y_len Try.underlying22 rfl) ?_
    refine sd (d_make (m := N.evs.length) (lo := w.heap.size) (enc := encI) (e0 := (0 : Int)) sl22 info3 (fun _ => rfl) rfl rfl rfl (by omega) (by unfold maxLen; omega) (by omega) ?_)
    intro bc w32 hbbc hs34 ho33 hC
    have hz36 := ho33.size
    replace hN := hN.ext ho33
    replace hE := hE.step ho33 (.inl (Nat.le_refl _))
    replace hb1 := hb1.ext ho33
    replace hP := hP.ext ho33
    refine st (asS rfl) ?_
    refine rg_end ?_
    refine n_then ?_
    refine wp_seq ?_
    refine rg ?_
    refine st (asI rfl) ?_
    refine rg_end ?_
    refine n_then ?_
    refine wp_seq ?_
    refine wp_seq ?_
    refine rg ?_
    refine st (mvS rfl) ?_
    refine st (y_len Try.underlying22 rfl) ?_
    refine st (mvI rfl) ?_
    refine rg_end ?_
    refine n_then ?_
    refine wp_block ?_
    refine lp (γ := Nat × List Int × Int) [7, 8, 9, 46, 47, 48, 49, 50, 51, 52, 53, 54, 55, 56, 57, 58, 59, 60, 61, 62, 63, 64, 65, 66, 67, 68, 69, 70, 71, 72, 73, 74, 75, 76, 77, 78, 79, 80, 81, 82, 83, 84] (fun ⟨k, c, s⟩ => [(46, .int .i64 (k : Int)), (7, .int .i64 s)]) (fun ⟨k, c, s⟩ w_ => Out bc (bc + 1) w32 w_ ∧ (k : Int) ≤ N.evs.length ∧ CompTo N.evs.length (conB N.acts) k c ∧ s = ((cntF (conB N.acts) k : Nat) : Int) ∧ Ow 3 encI 1 w.heap.size (bc + 1) w_ (some ⟨bc, 0, none⟩) N.evs.length c) (fun ⟨k, c, s⟩ => N.evs.length - k) (0, List.replicate N.evs.length 0, 0) ⟨rfl, rfl, trivial⟩ ⟨Out.refl _ _ _, by simp, CompTo.start (by simp), by simp [cntF], hC⟩ ?_
    rintro ⟨k, c, s⟩ hav_ w37 ⟨ho38, hk, hcm, hs, hC⟩
    have hlp2 := ho38
    have hz39 := ho38.size
    replace hN := hN.out ho38 (by first | omega | (simp only [blk_some, hi1_some] at *; omega))
    replace hE := hE.step ho38 (by first | omega | (simp only [blk_some, hi1_some] at *; omega))
    replace hb1 := hb1.out ho38 (by first | omega | (simp only [blk_some, hi1_some] at *; omega))
    have hrnhP := hP.rng
    replace hP := hP.out ho38 (by first | omega | (simp only [blk_some, hi1_some] at *; omega))
    refine wp_seq ?_
    refine rg ?_
    refine st (y_lss rfl rfl) ?_
    refine rg_end ?_
    refine n_then ?_
    refine wp_seq ?_
    refine cnd rfl (fun hc3 => ?_) (fun hc3 => ?_)
    ·
     try simp only [nm] at hc3
     have hcl := hcm.len
     have hcn := cntF_le (conB N.acts) k
     refine wp_skip ?_
     refine n_then ?_
     refine wp_seq ?_
     refine wp_block ?_
     refine wp_seq ?_
     refine rg ?_
     refine st (mvI rfl) ?_
     refine st (asI rfl) ?_
     refine rg_end ?_
     refine n_then ?_
     refine wp_seq ?_
     refine rg ?_
     refine st (mvS rfl) ?_
     refine st (mvI rfl) ?_
     refine st (y_ix hC.sl sl22 rfl (hcm.len.symm) rfl (by omega) (by omega)) ?_
     refine sd0 (d_se (j := 0) (e' := (-1 : Int)) hC sz3 rfl rfl rfl (by omega) (by omega) (Nat.le_of_ble_eq_true rfl) rfl ?_)
     intro w40 hs42 ho41 hC'
     have hrhC := hC.rng
     clear hC; have hC := hC'; clear hC'
     have hz43 := ho41.size
     replace hN := hN.out ho41 (by first | omega | (simp only [blk_some, hi1_some] at *; omega))
     replace hE := hE.step ho41 (by first | omega | (simp only [blk_some, hi1_some] at *; omega))
     replace hb1 := hb1.out ho41 (by first | omega | (simp only [blk_some, hi1_some] at *; omega))
     replace hP := hP.out ho41 (by first | omega | (simp only [blk_some, hi1_some] at *; omega))
     replace hlp2 := hlp2.step ho41 (by first | omega | (simp only [blk_some, hi1_some] at *; omega))
     refine rg_end ?_
     refine n_then ?_
     refine wp_seq ?_
     refine wp_seq ?_
     refine rg ?_
     refine st (asI rfl) ?_
     refine rg_end ?_
     refine n_then ?_
     refine wp_block ?_
     refine lp (γ := Nat × Int) [9, 52, 53, 54, 55, 56, 57, 58, 59, 60, 61, 62, 63, 64, 65, 66, 67, 68, 69, 70, 71, 72] (fun ⟨q, x⟩ => [(9, .int .i64 (q : Int))]) (fun ⟨q, x⟩ w_ => Out bc (bc + 1) w40 w_ ∧ q ≤ k ∧ Among (conB N.acts) c k q x ∧ Ow 3 encI 1 w.heap.size (bc + 1) w_ (some ⟨bc, 0, none⟩) N.evs.length (c.set (k : Int).toNat x)) (fun ⟨q, x⟩ => k - q) (0, -1) ⟨rfl, trivial⟩ ⟨Out.refl _ _ _, by omega, Among.start, hC⟩ ?_
     rintro ⟨q, x⟩ hav_ w44 ⟨ho45, hq, ham, hC⟩
     have hlp3 := ho45
     have hz46 := ho45.size
     replace hN := hN.out ho45 (by first | omega | (simp only [blk_some, hi1_some] at *; omega))
     replace hE := hE.step ho45 (by first | omega | (simp only [blk_some, hi1_some] at *; omega))
     replace hb1 := hb1.out ho45 (by first | omega | (simp only [blk_some, hi1_some] at *; omega))
     replace hP := hP.out ho45 (by first | omega | (simp only [blk_some, hi1_some] at *; omega))
     replace hlp2 := hlp2.step ho45 (by first | omega | (simp only [blk_some, hi1_some] at *; omega))
     refine wp_seq ?_
     refine wp_seq ?_
     refine rg ?_
     refine st (mvI rfl) ?_
     refine st (mvI rfl) ?_
     refine st (y_lss rfl rfl) ?_
     refine rg_end ?_
     refine n_then ?_
     refine cnd rfl (fun hc4 => ?_) (fun hc4 => ?_)
     ·
      try simp only [nm] at hc4
      have e1 := hr.2 (q : Int) (by omega) (by omega)
      have e2 := hr.2 (k : Int) (by omega) (by omega)
      have hKK := ht (q : Int) (k : Int) (by omega) (by omega) (by omega) (by omega)
      refine wp_skip ?_
      refine n_then ?_
      refine wp_seq ?_
      refine wp_block ?_
      refine wp_seq ?_
      refine rgD 8 (fun w_ => Ext w44 w_) (fun i => false) mixed (by kernel_rfl) ?_
      intro w47 ho48 hs49
      refine ⟨ho48, ?_⟩
      have hx50 := ho48
      refine tn rfl (fun _ hG => mvS rfl) ?_
      refine tn rfl (fun _ hG => mvI rfl) ?_
      refine tn rfl (fun _ hG => y_ix (hP.ext hG).sl sl22 rfl (hr.1.symm) rfl (by omega) (by omega)) ?_
      refine tn rfl (fun _ hG => y_le (hP.ext hG).sl na3 rfl (by omega) (by omega) rfl) ?_
      refine tn rfl (fun _ hG => mvS rfl) ?_
      refine tn rfl (fun _ hG => mvI rfl) ?_
      refine tn rfl (fun _ hG => y_ix (hP.ext hG).sl sl22 rfl (hr.1.symm) rfl (by omega) (by omega)) ?_
      refine tn rfl (fun _ hG => y_le (hP.ext hG).sl na3 rfl (by omega) (by omega) rfl) ?_
      refine t_end ?_
      have hz51 := hx50.size
      replace hN := hN.ext hx50
      replace hE := hE.step hx50 (.inl (Nat.le_refl _))
      replace hb1 := hb1.ext hx50
      replace hP := hP.ext hx50
      replace hlp2 := hlp2.step hx50 (.inl (Nat.le_refl _))
      replace hC := hC.ext hx50
      replace hlp3 := hlp3.step hx50 (.inl (Nat.le_refl _))
      refine st (y_eql rfl rfl) ?_
      refine rg_end ?_
      refine n_then ?_
      refine cnd rfl (fun hc5 => ?_) (fun hc5 => ?_)
      ·
       try simp only [nm] at hc5
       have ham1 := ham.put hcm ht (by omega) (by omega) (hKK.2 (by omega))
       have hrd : el (c.set (k : Int).toNat x) (q : Int) = el c q := elSetN (by omega) (by omega) (by omega)
       refine rg ?_
       refine st (mvS rfl) ?_
       refine st (mvI rfl) ?_
       refine st (mvS rfl) ?_
       refine st (mvI rfl) ?_
       refine st (y_ix hC.sl sl22 rfl (by simp; omega) rfl (by omega) (by simp; omega)) ?_
       refine st (y_le hC.sl na3 rfl (by omega) (by simp; omega) rfl) ?_
       refine st (y_ix hC.sl sl22 rfl (by simp; omega) rfl (by omega) (by simp; omega)) ?_
       refine sd0 (d_se (j := 0) (e' := el (c.set (k : Int).toNat x) (q : Int)) hC sz3 rfl rfl rfl (by omega) (by simp; omega) (Nat.le_of_ble_eq_true rfl) rfl ?_)
       intro w52 hs54 ho53 hC'
       have hrhC := hC.rng
       clear hC; have hC := hC'; clear hC'
       have hz55 := ho53.size
       replace hN := hN.out ho53 (by first | omega | (simp only [blk_some, hi1_some] at *; omega))
       replace hE := hE.step ho53 (by first | omega | (simp only [blk_some, hi1_some] at *; omega))
       replace hb1 := hb1.out ho53 (by first | omega | (simp only [blk_some, hi1_some] at *; omega))
       replace hP := hP.out ho53 (by first | omega | (simp only [blk_some, hi1_some] at *; omega))
       replace hlp2 := hlp2.step ho53 (by first | omega | (simp only [blk_some, hi1_some] at *; omega))
       replace hlp3 := hlp3.step ho53 (by first | omega | (simp only [blk_some, hi1_some] at *; omega))
       rw [List.set_set, hrd] at hC
       refine rg_end ?_
       refine n_blk ?_
       refine n_then ?_
       refine rg ?_
       refine st (mvI rfl) ?_
       refine st (y_add rfl rfl (by omega)) ?_
       refine st (asI rfl) ?_
       refine rg_end ?_
       exact n_then ⟨(q + 1, _), _, rfl, same_lk rfl (same_h0), ⟨rfl, trivial⟩, ⟨hlp3, by omega, ham1, hC⟩, by first | omega | (dsimp only; omega)⟩
      ·
       try simp only [nm] at hc5
       have ham1 := ham.skip (by cases hz : conB N.acts (q : Int) (k : Int) with | false => rfl | true => exact absurd (hKK.1 hz) (by omega))
       refine wp_skip ?_
       refine n_blk ?_
       refine n_then ?_
       refine rg ?_
       refine st (mvI rfl) ?_
       refine st (y_add rfl rfl (by omega)) ?_
       refine st (asI rfl) ?_
       refine rg_end ?_
       exact n_then ⟨(q + 1, _), _, rfl, same_lk rfl (same_h0), ⟨rfl, trivial⟩, ⟨hlp3, by omega, ham1, hC⟩, by first | omega | (dsimp only; omega)⟩
     ·
      try simp only [nm] at hc4
      have hqk : k = q := by omega
      subst hqk
      have hng := ham.neg hcm
      have hex : el (c.set (k : Int).toNat x) (k : Int) = x := elSetS (by omega) (by omega)
      refine wp_exit ?_
      refine e_then (e_then (e_blk (?_)))
      refine n_then ?_
      refine wp_seq ?_
      refine rg ?_
      refine st (mvS rfl) ?_
      refine st (mvI rfl) ?_
      refine st (y_ix hC.sl sl22 rfl (by simp; omega) rfl (by omega) (by simp; omega)) ?_
      refine st (y_le hC.sl na3 rfl (by omega) (by simp; omega) rfl) ?_
      refine st (y_lss rfl rfl) ?_
      refine rg_end ?_
      refine n_then ?_
      refine cnd rfl (fun hc6 => ?_) (fun hc6 => ?_)
      ·
       try simp only [nm] at hc6
       have hfs := hng.1 (by omega)
       have hcm1 := hcm.put (v := s) (by omega) (fun _ => hs) (fun j hj hK => by rw [first_yes hfs hj] at hK; cases hK)
       have hs1 : s + 1 = ((cntF (conB N.acts) (k + 1) : Nat) : Int) := by rw [cntF_succ, if_pos hfs]; omega
       refine wp_seq ?_
       refine rg ?_
       refine st (mvS rfl) ?_
       refine st (mvI rfl) ?_
       refine st (mvI rfl) ?_
       refine st (y_ix hC.sl sl22 rfl (by simp; omega) rfl (by omega) (by simp; omega)) ?_
       refine sd0 (d_se (j := 0) (e' := s) hC sz3 rfl rfl rfl (by omega) (by simp; omega) (Nat.le_of_ble_eq_true rfl) rfl ?_)
       intro w56 hs58 ho57 hC'
       have hrhC := hC.rng
       clear hC; have hC := hC'; clear hC'
       have hz59 := ho57.size
       replace hN := hN.out ho57 (by first | omega | (simp only [blk_some, hi1_some] at *; omega))
       replace hE := hE.step ho57 (by first | omega | (simp only [blk_some, hi1_some] at *; omega))
       replace hb1 := hb1.out ho57 (by first | omega | (simp only [blk_some, hi1_some] at *; omega))
       replace hP := hP.out ho57 (by first | omega | (simp only [blk_some, hi1_some] at *; omega))
       replace hlp2 := hlp2.step ho57 (by first | omega | (simp only [blk_some, hi1_some] at *; omega))
       rw [List.set_set] at hC
       refine rg_end ?_
       refine n_then ?_
       refine rg ?_
       refine st (mvI rfl) ?_
       refine st (y_add rfl rfl (by omega)) ?_
       refine st (asI rfl) ?_
       refine rg_end ?_
       refine n_blk ?_
       refine n_then ?_
       refine rg ?_
       refine st (y_add rfl rfl (by omega)) ?_
       refine st (mvI rfl) ?_
       refine rg_end ?_
       exact n_then ⟨(k + 1, _, _), _, rfl, same_lk rfl (same_hav rfl (same_lk rfl (same_h0))), ⟨rfl, rfl, trivial⟩, ⟨hlp2, by omega, hcm1, hs1, hC⟩, by first | omega | (dsimp only; omega)⟩
      ·
       try simp only [nm] at hc6
       have hnf : ¬ fstB (conB N.acts) k = true := fun h => by have := hng.2 h; omega
       have hcm1 := hcm.put (v := x) (by omega) (fun h => absurd h hnf) (fun j hj hK => ham.1 j hj hK)
       have hs1 : s = ((cntF (conB N.acts) (k + 1) : Nat) : Int) := by rw [cntF_succ, if_neg hnf]; omega
       refine wp_skip ?_
       refine n_blk ?_
       refine n_then ?_
       refine rg ?_
       refine st (y_add rfl rfl (by omega)) ?_
       refine st (mvI rfl) ?_
       refine rg_end ?_
       exact n_then ⟨(k + 1, _, _), _, rfl, same_lk rfl (same_hav rfl (same_lk rfl (same_h0))), ⟨rfl, rfl, trivial⟩, ⟨hlp2, by omega, hcm1, hs1, hC⟩, by first | omega | (dsimp only; omega)⟩
    ·
     try simp only [nm] at hc3
     refine wp_exit ?_
     refine e_then (e_then (e_blk (?_)))
     refine n_then ?_
     refine wp_seq ?_
     refine rg ?_
     refine st (mvS rfl) ?_
     refine st (asS rfl) ?_
     refine rg_end ?_
     refine n_then ?_
     refine wp_ret ?_
     refine ret1 (v := (.slice _ _ _)) Try.results75 rfl ?_
     have hkn : k = N.evs.length := by omega
     subst hkn
     exact ⟨_, _, c, by rw [hcm.len], Sl.wide hC.sl (Nat.le_refl _) (by omega), (fun h => by rw [hc0] at h; cases h), fun _ => hcm, hE⟩
end Go.Proofs.Ytclligkngjhihaa
