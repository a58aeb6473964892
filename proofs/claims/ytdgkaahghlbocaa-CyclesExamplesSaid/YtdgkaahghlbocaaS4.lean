/-
  Walks of the functions, printed by a program out of the code and the loops' relations.
-/
import Derived.Test.YtdgkaahghlbocaaWkD
import Derived.Test.YtdgkaahghlbocaaProg
import Derived.KernelRfl
import Derived.Test.YtdgkaahghlbocaaS3
namespace Go.Proofs.Ytdgkaahghlbocaa
open Go.Wk Go.RowKit
set_option linter.unusedVariables false
set_option linter.unusedSimpArgs false
theorem cl69 : Callable Try.prog 69 := ⟨Try.call69⟩
theorem cl74 : Callable Try.prog 74 := ⟨Try.call74⟩

/-- Sorted from 'x' up to 'y', and the numbers there lie in that range. -/
structure Seg (wd : Int → Int) (l : List Int) (x y : Int) : Prop where
  srt : SrtR wd l x y
  own : ∀ k : Int, x ≤ k → k < y → x ≤ el l k ∧ el l k < y
theorem Seg.frm {wd : Int → Int} {l l' : List Int} {x y a b : Int} (h : Seg wd l x y) (hf : Frm l l' a b) (hx : 0 ≤ x) (hy : y ≤ l.length) (hd : y ≤ a ∨ b ≤ x) : Seg wd l' x y :=
  ⟨hf.srt h.srt hx hy hd, fun k k0 k1 => by rw [hf.out k (by omega) (by omega) (by omega)]; exact h.own k k0 k1⟩
theorem Seg.lr {wd : Int → Int} {l : List Int} {x m y : Int} (h1 : Seg wd l x m) (h2 : Seg wd l m y) : LRn l x m y := fun i j hi hi2 hj hj2 => by
  have a := h1.own i hi hi2
  have b := h2.own j hj hj2
  omega
theorem Seg.merge {wd : Int → Int} {l l' : List Int} {x m y : Int} (h1 : Seg wd l x m) (h2 : Seg wd l m y) (hxm : x ≤ m) (hmy : m ≤ y) (hs : SrtR wd l' x y) (hf : Frm l l' x y) : Seg wd l' x y := ⟨hs, fun k k0 k1 => by
  obtain ⟨j, j0, j1, e⟩ := hf.src k k0 k1
  rw [e]
  by_cases c : j < m
  · have := h1.own j j0 c; omega
  · have := h2.own j (by omega) j1; omega⟩
theorem Seg.first {wd : Int → Int} {l l' : List Int} {x y : Int} (h : ∀ k : Int, x ≤ k → k < y → el l k = k) (hs : SrtR wd l' x y) (hf : Frm l l' x y) : Seg wd l' x y := ⟨hs, fun k k0 k1 => by
  obtain ⟨j, j0, j1, e⟩ := hf.src k k0 k1
  rw [e, h j j0 j1]; omega⟩
def AllS (wd : Int → Int) (l : List Int) (bs n : Int) : Prop := ∀ p : Int, 0 ≤ p → p * bs < n → Seg wd l (p * bs) (min (p * bs + bs) n)
theorem mul_lt_ {p q B : Int} (h : p < q) (hB : 0 ≤ B) : p * B + B ≤ q * B := by
  have := Int.mul_le_mul_of_nonneg_right (show p + 1 ≤ q by omega) hB
  rwa [Int.add_mul, Int.one_mul] at this
theorem mul_nn {p B : Int} (h : 0 ≤ p) (hB : 0 ≤ B) : 0 ≤ p * B := Int.mul_nonneg h hB
/-- The first phase: blocks of twenty. -/
structure PhA (wd : Int → Int) (l : List Int) (q n : Int) : Prop where
  don : ∀ p : Int, 0 ≤ p → p < q → Seg wd l (p * 20) (p * 20 + 20)
  todo : ∀ k : Int, q * 20 ≤ k → k < n → el l k = k
theorem PhA.step {wd : Int → Int} {l l' : List Int} {q n : Int} (h : PhA wd l q n) (hq : 0 ≤ q) (hn : q * 20 + 20 ≤ n) (hl : n ≤ l.length) (hs : SrtR wd l' (q * 20) (q * 20 + 20)) (hf : Frm l l' (q * 20) (q * 20 + 20)) : PhA wd l' (q + 1) n :=
  ⟨fun p p0 p1 => by
    by_cases e : p = q
    · subst e; exact Seg.first (fun k k0 k1 => h.todo k k0 (by omega)) hs hf
    · exact (h.don p p0 (by omega)).frm hf (by omega) (by omega) (.inl (by omega)), fun k k0 k1 => by
    rw [hf.out k (by omega) (by omega) (.inr (by omega))]; exact h.todo k (by omega) k1⟩
theorem PhA.done {wd : Int → Int} {l l' : List Int} {q n : Int} (h : PhA wd l q n) (hq : 0 ≤ q) (hq2 : q * 20 ≤ n) (hn : n < q * 20 + 20) (hl : n ≤ l.length) (hs : SrtR wd l' (q * 20) n) (hf : Frm l l' (q * 20) n) : AllS wd l' 20 n := fun p p0 p1 => by
  by_cases e : p = q
  · subst e
    rw [show min (p * 20 + 20) n = n by omega]
    exact Seg.first (fun k k0 k1 => h.todo k k0 k1) hs hf
  · have hlt : p < q := by omega
    rw [show min (p * 20 + 20) n = p * 20 + 20 by omega]
    exact (h.don p p0 hlt).frm hf (by omega) (by omega) (.inl (by omega))
/-- Within a round of merges. -/
structure PhB (wd : Int → Int) (l : List Int) (bs q a n : Int) : Prop where
  q0 : 0 ≤ q
  at_ : a = q * (2 * bs)
  le : a ≤ n
  don : ∀ p : Int, 0 ≤ p → p < q → Seg wd l (p * (2 * bs)) (p * (2 * bs) + 2 * bs)
  todo : ∀ p : Int, 2 * q ≤ p → p * bs < n → Seg wd l (p * bs) (min (p * bs + bs) n)
theorem PhB.start {wd : Int → Int} {l : List Int} {bs n : Int} (hn : 0 ≤ n) (h : AllS wd l bs n) : PhB wd l bs 0 0 n := ⟨by omega, by simp, hn, fun p p0 p1 => by omega, fun p p0 p1 => h p (by omega) p1⟩
theorem PhB.two {wd : Int → Int} {l : List Int} {bs q a n : Int} (h : PhB wd l bs q a n) (hb : 0 < bs) (hn : a + bs < n) : Seg wd l a (a + bs) ∧ Seg wd l (a + bs) (min (a + 2 * bs) n) := by
  have e : 2 * q * bs = a := by rw [h.at_, Int.mul_comm 2 q, Int.mul_assoc]
  have h1 := h.todo (2 * q) (by omega) (by omega)
  have e2 : (2 * q + 1) * bs = a + bs := by rw [Int.add_mul, e, Int.one_mul]
  have h2 := h.todo (2 * q + 1) (by omega) (by omega)
  rw [e, show min (a + bs) n = a + bs by omega] at h1
  rw [e2, show a + bs + bs = a + 2 * bs by omega] at h2
  exact ⟨h1, h2⟩
theorem PhB.step {wd : Int → Int} {l l' : List Int} {bs q a n : Int} (h : PhB wd l bs q a n) (hb : 0 < bs) (hn : a + 2 * bs ≤ n) (hl : n ≤ l.length) (hs : SrtR wd l' a (a + 2 * bs)) (hf : Frm l l' a (a + 2 * bs)) : PhB wd l' bs (q + 1) (a + 2 * bs) n := by
  obtain ⟨s1, s2⟩ := h.two hb (by omega)
  rw [show min (a + 2 * bs) n = a + 2 * bs by omega] at s2
  have ha := h.at_
  have hq := h.q0
  have ha0 : 0 ≤ a := by rw [ha]; exact mul_nn hq (by omega)
  refine ⟨by omega, by rw [Int.add_mul, Int.one_mul, ← ha], hn, fun p p0 p1 => ?_, fun p p0 p1 => ?_⟩
  · by_cases e : p = q
    · subst e; rw [← ha]; exact s1.merge s2 (by omega) (by omega) hs hf
    · have := mul_lt_ (B := 2 * bs) (show p < q by omega) (by omega)
      have := mul_nn (B := 2 * bs) p0 (by omega)
      exact (h.don p p0 (by omega)).frm hf (by omega) (by omega) (.inl (by omega))
  · have h1 := Int.mul_le_mul_of_nonneg_right (show 2 * q + 2 ≤ p by omega) (show 0 ≤ bs by omega)
    have e2 : (2 * q + 2) * bs = a + 2 * bs := by rw [Int.add_mul, ha, Int.mul_comm 2 q, Int.mul_assoc]
    exact (h.todo p (by omega) p1).frm hf (by omega) (by omega) (.inr (by omega))
theorem PhB.last {wd : Int → Int} {l l' : List Int} {bs q a n : Int} (h : PhB wd l bs q a n) (hb : 0 < bs) (hn : n < a + 2 * bs) (hl : n ≤ l.length) (hs : a < n → Seg wd l' a n) (hf : Frm l l' a n) : AllS wd l' (bs * 2) n := fun p p0 p1 => by
  have e : bs * 2 = 2 * bs := by omega
  rw [e] at p1 ⊢
  have ha := h.at_
  by_cases c : p < q
  · have h1 := mul_lt_ (B := 2 * bs) c (by omega)
    have h2 := mul_nn (B := 2 * bs) p0 (by omega)
    have h3 := h.le
    rw [show min (p * (2 * bs) + 2 * bs) n = p * (2 * bs) + 2 * bs by omega]
    exact (h.don p p0 c).frm hf (by omega) (by omega) (.inl (by omega))
  · by_cases c2 : p = q
    · subst c2
      rw [← ha] at p1 ⊢
      rw [show min (a + 2 * bs) n = n by omega]; exact hs p1
    · have h1 := mul_lt_ (B := 2 * bs) (show q < p by omega) (by omega)
      omega
theorem PhB.one {wd : Int → Int} {l : List Int} {bs q a n : Int} (h : PhB wd l bs q a n) (hn : n ≤ a + bs) : a < n → Seg wd l a n := fun ha => by
  have e : 2 * q * bs = a := by rw [h.at_, Int.mul_comm 2 q, Int.mul_assoc]
  have h1 := h.todo (2 * q) (by omega) (by omega)
  rwa [e, show min (a + bs) n = n by omega] at h1
theorem AllS.done {wd : Int → Int} {l : List Int} {bs n : Int} (h : AllS wd l bs n) (hb : n ≤ bs) : SrtR wd l 0 n := fun i j hi hij hj => by
  have h1 := h 0 (by omega) (by omega)
  rw [Int.zero_mul, Int.zero_add, show min bs n = n by omega] at h1
  exact h1.srt i j hi hij hj

set_option maxHeartbeats 1000000 in
set_option maxRecDepth 100000 in
theorem stable_ok (ad : Option Addr) (nD cD zl zh : Nat) (wd : Int → Int) (mx : Int) (kc : Nat) (lb : List Value) (J : World → Prop) (l : List Int) (w : World) (hD : Ow 3 encI 1 zl zh w ad cD l) (hln : l.length = nD) (hn8 : nD ≤ 1048576) (hid : ∀ k : Int, 0 ≤ k → k < nD → el l k = k) (hval : ValR mx nD l) (hkc : Callable Try.prog kc) (hJ : CjI ad J w) (hcmp : ∀ (x y : Int) (w1 : World), (0 ≤ x ∧ x < mx) → (0 ≤ y ∧ y < mx) → J w1 → Cal Try.prog kc ([.int .i64 x, .int .i64 y] ++ lb) w1 (fun v w2 => v = .int .i64 (wd x - wd y) ∧ Ext w1 w2))  : Cal Try.prog 69 [.slice ad nD cD, .int .i64 (nD : Int), .func (.func kc) #[] lb.toArray] w (fun v w' => ∃ l', v = .tuple #[] ∧ SrtR wd l' 0 nD ∧ Frm l l' 0 nD ∧ Ow 3 encI 1 zl zh w' ad cD l' ∧ Out (blk ad) (hi1 ad) w w') := by
 have hE : Out (blk ad) (hi1 ad) w w := Out.refl _ _ w
 refine enter Try.func69 rfl Try.ntmps69 rfl ?_
 refine wp_seq ?_
 refine rg ?_
 refine st (asI rfl) ?_
 refine rg_end ?_
 refine n_then ?_
 refine wp_seq ?_
 refine rg ?_
 refine st (mvI rfl) ?_
 refine st (asI rfl) ?_
 refine st (asI rfl) ?_
 refine rg_end ?_
 refine n_then ?_
 refine wp_seq ?_
 refine wp_block ?_
 refine lp (γ := Int × List Int) [6, 7, 8, 11, 12, 13, 14, 15, 16, 17, 18, 19, 20, 21, 22] (fun ⟨q, cur⟩ => [(7, .int .i64 (q * 20)), (8, .int .i64 (q * 20 + 20)), (6, .int .i64 20)]) (fun ⟨q, cur⟩ w_ => Out (blk ad) (hi1 ad) w w_ ∧ 0 ≤ q ∧ q * 20 ≤ nD ∧ PhA wd cur q nD ∧ Frm l cur 0 nD ∧ Ow 3 encI 1 zl zh w_ ad cD  cur) (fun ⟨q, cur⟩ => (nD - q * 20).toNat) (0, l) ⟨rfl, rfl, rfl, trivial⟩ ⟨Out.refl _ _ _, by omega, by omega, ⟨fun p p0 p1 => by omega, fun k k0 k1 => hid k (by omega) k1⟩, Frm.refl _ _ _, hD⟩ ?_
 rintro ⟨q, cur⟩ hav_ w1 ⟨ho2, hq0, hq1, hph, hfr, hD⟩
 have hlp0 := ho2
 have hz3 := ho2.size
 replace hJ := hJ.out ho2 (by first | omega | (simp only [blk_some, hi1_some] at *; omega))
 replace hE := hE.step ho2 (by first | omega | (simp only [blk_some, hi1_some] at *; omega))
 have hcl : cur.length = nD := by have := hfr.len; omega
 have hvc := hval.frm hfr hln (Int.le_refl _) (Int.le_refl _)
 refine wp_seq ?_
 refine wp_seq ?_
 refine rg ?_
 refine st (mvI rfl) ?_
 refine st (mvI rfl) ?_
 refine st (y_leq rfl rfl) ?_
 refine rg_end ?_
 refine n_then ?_
 refine cnd rfl (fun hc0 => ?_) (fun hc0 => ?_)
 ·
  try simp only [nm] at hc0
  refine wp_skip ?_
  refine n_then ?_
  refine wp_block ?_
  refine wp_seq ?_
  refine rg ?_
  refine st (mvS rfl) ?_
  refine st (mvI rfl) ?_
  refine st (mvI rfl) ?_
  refine st (mvF rfl) ?_
  refine sc cl74 (insertionSort_ok ad nD cD zl zh wd mx kc lb J cur (q * 20) (q * 20 + 20) _ hD hcl hn8 (by omega) (by omega) (by omega) (fun p q_ h1 h2 h3 => by rw [hph.todo p (by omega) (by omega), hph.todo q_ (by omega) (by omega)]; omega) hvc hkc hJ hcmp) rfl ?_
  rintro v8 w4 ⟨l1, rfl, hs1, hf1, hD1, ho5⟩
  clear hD
  have hD := hD1
  clear hD1
  have hz9 := ho5.size
  replace hJ := hJ.out ho5 (by first | omega | (simp only [blk_some, hi1_some] at *; omega))
  replace hE := hE.step ho5 (by first | omega | (simp only [blk_some, hi1_some] at *; omega))
  replace hlp0 := hlp0.step ho5 (by first | omega | (simp only [blk_some, hi1_some] at *; omega))
  have hph1 := hph.step hq0 (by omega) (by omega) hs1 hf1
  have hfr1 := hfr.trans (hf1.wide (Int.le_refl _) (by omega) (by omega) (by omega))
  refine rg_end ?_
  refine n_then ?_
  refine wp_seq ?_
  refine rg ?_
  refine st (mvI rfl) ?_
  refine st (asI rfl) ?_
  refine rg_end ?_
  refine n_then ?_
  refine rg ?_
  refine st (mvI rfl) ?_
  refine st (mvI rfl) ?_
  refine st (y_add rfl rfl (by omega)) ?_
  refine st (asI rfl) ?_
  refine rg_end ?_
  refine n_blk ?_
  exact n_then ⟨(q + 1, _), _, rfl, same_lk rfl (same_h0), ⟨vi (by omega), vi (by omega), rfl, trivial⟩, ⟨hlp0, by omega, by omega, hph1, hfr1, hD⟩, by first | omega | (dsimp only; omega)⟩
 ·
  try simp only [nm] at hc0
  refine wp_exit ?_
  refine e_then (e_then (e_blk (?_)))
  refine n_then ?_
  refine wp_seq ?_
  refine rg ?_
  refine st (mvS rfl) ?_
  refine st (mvI rfl) ?_
  refine st (mvI rfl) ?_
  refine st (mvF rfl) ?_
  refine sc cl74 (insertionSort_ok ad nD cD zl zh wd mx kc lb J cur (q * 20) (nD : Int) _ hD hcl hn8 (by omega) (by omega) (by omega) (fun p q_ h1 h2 h3 => by rw [hph.todo p (by omega) (by omega), hph.todo q_ (by omega) (by omega)]; omega) hvc hkc hJ hcmp) rfl ?_
  rintro v14 w10 ⟨l1, rfl, hs1, hf1, hD1, ho11⟩
  clear hD
  have hD := hD1
  clear hD1
  have hz15 := ho11.size
  replace hJ := hJ.out ho11 (by first | omega | (simp only [blk_some, hi1_some] at *; omega))
  replace hE := hE.step ho11 (by first | omega | (simp only [blk_some, hi1_some] at *; omega))
  have hall0 := hph.done hq0 hq1 (by omega) (by omega) hs1 hf1
  have hfr0 := hfr.trans (hf1.wide (Int.le_refl _) (by omega) (by omega) (by omega))
  refine rg_end ?_
  refine n_then ?_
  refine wp_block ?_
  refine lp (γ := Int × List Int) [6, 7, 8, 9, 28, 29, 30, 31, 32, 33, 34, 35, 36, 37, 38, 39, 40, 41, 42, 43, 44, 45, 46, 47, 48, 49, 50, 51, 52, 53, 54, 55, 56, 57, 58, 59, 60, 61, 62] (fun ⟨bs, cur⟩ => [(6, .int .i64 bs)]) (fun ⟨bs, cur⟩ w_ => Out (blk ad) (hi1 ad) w10 w_ ∧ 20 ≤ bs ∧ bs ≤ 2 * nD + 20 ∧ AllS wd cur bs nD ∧ Frm l cur 0 nD ∧ Ow 3 encI 1 zl zh w_ ad cD  cur) (fun ⟨bs, cur⟩ => (nD - bs).toNat) (20, _) ⟨rfl, trivial⟩ ⟨Out.refl _ _ _, by omega, by omega, hall0, hfr0, hD⟩ ?_
  rintro ⟨bs, cur⟩ hav_ w16 ⟨ho17, hbs0, hbs1, hall, hfr, hD⟩
  have hlp1 := ho17
  have hz18 := ho17.size
  replace hJ := hJ.out ho17 (by first | omega | (simp only [blk_some, hi1_some] at *; omega))
  replace hE := hE.step ho17 (by first | omega | (simp only [blk_some, hi1_some] at *; omega))
  have hcl : cur.length = nD := by have := hfr.len; omega
  have hvc := hval.frm hfr hln (Int.le_refl _) (Int.le_refl _)
  refine wp_seq ?_
  refine wp_seq ?_
  refine rg ?_
  refine st (mvI rfl) ?_
  refine st (mvI rfl) ?_
  refine st (y_lss rfl rfl) ?_
  refine rg_end ?_
  refine n_then ?_
  refine cnd rfl (fun hc1 => ?_) (fun hc1 => ?_)
  ·
   try simp only [nm] at hc1
   have hph0 := PhB.start (by omega) hall
   refine wp_skip ?_
   refine n_then ?_
   refine wp_block ?_
   refine wp_seq ?_
   refine rg ?_
   refine st (mvI rfl) ?_
   refine st (y_mul rfl rfl (by omega)) ?_
   refine st (asI rfl) ?_
   refine st (asI rfl) ?_
   refine rg_end ?_
   refine n_then ?_
   refine wp_seq ?_
   refine wp_block ?_
   refine lp (γ := Int × Int × List Int) [7, 8, 33, 34, 35, 36, 37, 38, 39, 40, 41, 42, 43, 44, 45, 46, 47, 48] (fun ⟨q, a, cur⟩ => [(7, .int .i64 a), (8, .int .i64 (a + 2 * bs))]) (fun ⟨q, a, cur⟩ w_ => Out (blk ad) (hi1 ad) w16 w_ ∧ 0 ≤ a ∧ PhB wd cur bs q a nD ∧ Frm l cur 0 nD ∧ Ow 3 encI 1 zl zh w_ ad cD  cur) (fun ⟨q, a, cur⟩ => (nD - a).toNat) (0, 0, cur) ⟨rfl, vi (by omega), trivial⟩ ⟨Out.refl _ _ _, by omega, hph0, hfr, hD⟩ ?_
   rintro ⟨q, a, cur⟩ hav_ w19 ⟨ho20, ha0, hph, hfr, hD⟩
   have hlp2 := ho20
   have hz21 := ho20.size
   replace hJ := hJ.out ho20 (by first | omega | (simp only [blk_some, hi1_some] at *; omega))
   replace hE := hE.step ho20 (by first | omega | (simp only [blk_some, hi1_some] at *; omega))
   replace hlp1 := hlp1.step ho20 (by first | omega | (simp only [blk_some, hi1_some] at *; omega))
   have hcl : cur.length = nD := by have := hfr.len; omega
   have hvc := hval.frm hfr hln (Int.le_refl _) (Int.le_refl _)
   refine wp_seq ?_
   refine wp_seq ?_
   refine rg ?_
   refine st (mvI rfl) ?_
   refine st (mvI rfl) ?_
   refine st (y_leq rfl rfl) ?_
   refine rg_end ?_
   refine n_then ?_
   refine cnd rfl (fun hc2 => ?_) (fun hc2 => ?_)
   ·
    try simp only [nm] at hc2
    refine wp_skip ?_
    refine n_then ?_
    refine wp_block ?_
    refine wp_seq ?_
    refine rg ?_
    refine st (mvS rfl) ?_
    refine st (mvI rfl) ?_
    refine st (mvI rfl) ?_
    refine st (mvI rfl) ?_
    refine st (y_add rfl rfl (by omega)) ?_
    refine st (mvI rfl) ?_
    refine st (mvF rfl) ?_
    obtain ⟨g1, g2⟩ := hph.two (by omega) (by omega)
    rw [show min (a + 2 * bs) (nD : Int) = a + 2 * bs by omega] at g2
    refine sc cl75 (symMerge_ok ad nD cD zl zh wd mx kc lb J hn8 hkc hcmp _ cur a (a + bs) (a + 2 * bs) _ (Nat.le_refl _) hD hcl (by omega) (by omega) (by omega) (by omega) g1.srt g2.srt (g1.lr g2) hvc hJ) rfl ?_
    rintro v26 w22 ⟨l1, rfl, hs1, hf1, hD1, ho23⟩
    clear hD
    have hD := hD1
    clear hD1
    have hl1 := hf1.len
    have hz27 := ho23.size
    replace hJ := hJ.out ho23 (by first | omega | (simp only [blk_some, hi1_some] at *; omega))
    replace hE := hE.step ho23 (by first | omega | (simp only [blk_some, hi1_some] at *; omega))
    replace hlp1 := hlp1.step ho23 (by first | omega | (simp only [blk_some, hi1_some] at *; omega))
    replace hlp2 := hlp2.step ho23 (by first | omega | (simp only [blk_some, hi1_some] at *; omega))
    have hph1 := hph.step (by omega) (by omega) (by omega) hs1 hf1
    have hfr1 := hfr.trans (hf1.wide (Int.le_refl _) (by omega) (by omega) (by omega))
    refine rg_end ?_
    refine n_then ?_
    refine wp_seq ?_
    refine rg ?_
    refine st (mvI rfl) ?_
    refine st (asI rfl) ?_
    refine rg_end ?_
    refine n_then ?_
    refine rg ?_
    refine st (mvI rfl) ?_
    refine st (mvI rfl) ?_
    refine st (y_mul rfl rfl (by omega)) ?_
    refine st (y_add rfl rfl (by omega)) ?_
    refine st (asI rfl) ?_
    refine rg_end ?_
    refine n_blk ?_
    exact n_then ⟨(q + 1, a + 2 * bs, _), _, rfl, same_lk rfl (same_h0), ⟨rfl, rfl, trivial⟩, ⟨hlp2, by omega, hph1, hfr1, hD⟩, by first | omega | (dsimp only; omega)⟩
   ·
    try simp only [nm] at hc2
    have hle := hph.le
    refine wp_exit ?_
    refine e_then (e_then (e_blk (?_)))
    refine n_then ?_
    refine wp_seq ?_
    refine wp_seq ?_
    refine rg ?_
    refine st (mvI rfl) ?_
    refine st (mvI rfl) ?_
    refine st (y_add rfl rfl (by omega)) ?_
    refine st (asI rfl) ?_
    refine rg_end ?_
    refine n_then ?_
    refine wp_seq ?_
    refine rg ?_
    refine st (mvI rfl) ?_
    refine st (mvI rfl) ?_
    refine st (y_lss rfl rfl) ?_
    refine rg_end ?_
    refine n_then ?_
    refine cnd rfl (fun hc3 => ?_) (fun hc3 => ?_)
    ·
     try simp only [nm] at hc3
     refine rg ?_
     refine st (mvS rfl) ?_
     refine st (mvI rfl) ?_
     refine st (mvI rfl) ?_
     refine st (mvI rfl) ?_
     refine st (mvF rfl) ?_
     obtain ⟨g1, g2⟩ := hph.two (by omega) (by omega)
     rw [show min (a + 2 * bs) (nD : Int) = (nD : Int) by omega] at g2
     refine sc cl75 (symMerge_ok ad nD cD zl zh wd mx kc lb J hn8 hkc hcmp _ cur a (a + bs) (nD : Int) _ (Nat.le_refl _) hD hcl (by omega) (by omega) (by omega) (by omega) g1.srt g2.srt (g1.lr g2) hvc hJ) rfl ?_
     rintro v32 w28 ⟨l1, rfl, hs1, hf1, hD1, ho29⟩
     clear hD
     have hD := hD1
     clear hD1
     have hl1 := hf1.len
     have hz33 := ho29.size
     replace hJ := hJ.out ho29 (by first | omega | (simp only [blk_some, hi1_some] at *; omega))
     replace hE := hE.step ho29 (by first | omega | (simp only [blk_some, hi1_some] at *; omega))
     replace hlp1 := hlp1.step ho29 (by first | omega | (simp only [blk_some, hi1_some] at *; omega))
     have hall1 := hph.last (by omega) (by omega) (by omega) (fun _ => g1.merge g2 (by omega) (by omega) hs1 hf1) hf1
     have hfr1 := hfr.trans (hf1.wide (Int.le_refl _) (by omega) (by omega) (by omega))
     refine rg_end ?_
     refine n_then ?_
     refine rg ?_
     refine st (mvI rfl) ?_
     refine st (y_mul rfl rfl (by omega)) ?_
     refine st (asI rfl) ?_
     refine rg_end ?_
     refine n_blk ?_
     exact n_then ⟨(bs * 2, _), _, rfl, same_lk rfl (same_hav rfl (same_lk rfl (same_h0))), ⟨rfl, trivial⟩, ⟨hlp1, by omega, by omega, hall1, hfr1, hD⟩, by first | omega | (dsimp only; omega)⟩
    ·
     try simp only [nm] at hc3
     have hall1 := hph.last (by omega) (by omega) (by omega) (hph.one (by omega)) (Frm.refl cur a nD)
     have hfr1 := hfr
     refine wp_skip ?_
     refine n_then ?_
     refine rg ?_
     refine st (mvI rfl) ?_
     refine st (y_mul rfl rfl (by omega)) ?_
     refine st (asI rfl) ?_
     refine rg_end ?_
     refine n_blk ?_
     exact n_then ⟨(bs * 2, _), _, rfl, same_lk rfl (same_hav rfl (same_lk rfl (same_h0))), ⟨rfl, trivial⟩, ⟨hlp1, by omega, by omega, hall1, hfr1, hD⟩, by first | omega | (dsimp only; omega)⟩
  ·
   try simp only [nm] at hc1
   have hfin := hall.done (by omega)
   refine wp_exit ?_
   refine e_then (e_then (e_blk (?_)))
   refine end0 Try.results69 ?_
   exact ⟨_, rfl, hfin, hfr, hD, hE⟩

set_option maxHeartbeats 1000000 in
set_option maxRecDepth 100000 in
theorem sortStable_ok (ad : Option Addr) (nD cD zl zh : Nat) (wd : Int → Int) (mx : Int) (kc : Nat) (lb : List Value) (J : World → Prop) (l : List Int) (w : World) (hD : Ow 3 encI 1 zl zh w ad cD l) (hln : l.length = nD) (hn8 : nD ≤ 1048576) (hid : ∀ k : Int, 0 ≤ k → k < nD → el l k = k) (hval : ValR mx nD l) (hkc : Callable Try.prog kc) (hJ : CjI ad J w) (hcmp : ∀ (x y : Int) (w1 : World), (0 ≤ x ∧ x < mx) → (0 ≤ y ∧ y < mx) → J w1 → Cal Try.prog kc ([.int .i64 x, .int .i64 y] ++ lb) w1 (fun v w2 => v = .int .i64 (wd x - wd y) ∧ Ext w1 w2))  : Cal Try.prog 58 [.slice ad nD cD, .func (.func kc) #[] lb.toArray] w (fun v w' => ∃ l', v = .tuple #[] ∧ SrtR wd l' 0 nD ∧ Frm l l' 0 nD ∧ Ow 3 encI 1 zl zh w' ad cD l' ∧ Out (blk ad) (hi1 ad) w w') := by
 have hE : Out (blk ad) (hi1 ad) w w := Out.refl _ _ w
 refine enter Try.func58 rfl Try.ntmps58 rfl ?_
 refine rg ?_
 refine st (mvS rfl) ?_
 refine st (mvS rfl) ?_
 refine st (y_len Try.underlying22 rfl) ?_
 refine st (mvF rfl) ?_
 refine sc cl69 (stable_ok ad nD cD zl zh wd mx kc lb J l _ hD hln hn8 hid hval hkc hJ hcmp) rfl ?_
 rintro v5 w1 ⟨l1, rfl, hs1, hf1, hD1, ho2⟩
 clear hD
 have hD := hD1
 clear hD1
 have hz6 := ho2.size
 replace hJ := hJ.out ho2 (by first | omega | (simp only [blk_some, hi1_some] at *; omega))
 replace hE := hE.step ho2 (by first | omega | (simp only [blk_some, hi1_some] at *; omega))
 refine rg_end ?_
 refine end0 Try.results58 ?_
 exact ⟨_, rfl, hs1, hf1, hD, hE⟩
end Go.Proofs.Ytdgkaahghlbocaa
