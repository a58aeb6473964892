/-
  Walks of the functions, printed by a program out of the code and the loops' relations.
-/
import Derived.Test.YtdgkaahghlbocaaWkV
import Derived.Test.YtdgkaahghlbocaaProg
import Derived.KernelRfl
import Derived.Test.YtdgkaahghlbocaaS1
namespace Go.Proofs.Ytdgkaahghlbocaa
open Go.Wk Go.RowKit
set_option linter.unusedVariables false
set_option linter.unusedSimpArgs false
structure CjI (ad : Option Addr) (J : World → Prop) (w : World) : Prop where
  it : J w
  st : ∀ (w1 w2 : World) (a b : Nat), J w1 → Out a b w1 w2 → (b ≤ a ∨ (blk ad ≤ a ∧ b ≤ hi1 ad)) → J w2
theorem CjI.out {ad : Option Addr} {J : World → Prop} {w w' : World} {a b : Nat} (h : CjI ad J w) (ho : Out a b w w') (hs : b ≤ a ∨ (blk ad ≤ a ∧ b ≤ hi1 ad)) : CjI ad J w' := ⟨h.st w w' a b h.it ho hs, h.st⟩
theorem CjI.ext {ad : Option Addr} {J : World → Prop} {w w' : World} (h : CjI ad J w) (ho : Ext w w') : CjI ad J w' := h.out ho (.inl (Nat.le_refl _))
/-- All elements are numbers below 'mx'. -/
def ValR (mx : Int) (nD : Nat) (l : List Int) : Prop := ∀ k : Int, 0 ≤ k → k < nD → 0 ≤ el l k ∧ el l k < mx
theorem ValR.frm {mx : Int} {nD : Nat} {l0 l : List Int} {a b : Int} (h : ValR mx nD l0) (hf : Frm l0 l a b) (hl : l0.length = nD) (ha : 0 ≤ a) (hb : b ≤ nD) : ValR mx nD l := fun k k0 k1 => by
  by_cases c : k < a ∨ b ≤ k
  · rw [hf.out k k0 (by omega) c]; exact h k k0 k1
  · obtain ⟨j, j0, j1, e⟩ := hf.src k (by omega) (by omega)
    rw [e]; exact h j (by omega) (by omega)
theorem ValR.ins {wd : Int → Int} {mx : Int} {nD : Nat} {l1 cur : List Int} {a j i : Int} (h : ValR mx nD l1) (hi : InsI wd l1 cur a j i) (hl : l1.length = nD) (hj : 0 ≤ j) (hji : j ≤ i) (hin : i < nD) : ValR mx nD cur := fun k k0 k1 => by
  by_cases c : k < j
  · rw [hi.low k k0 c]; exact h k k0 k1
  · by_cases c2 : k = j
    · rw [c2, hi.here]; exact h i (by omega) hin
    · by_cases c3 : k ≤ i
      · rw [(hi.mid k (by omega) c3).1]; exact h _ (by omega) (by omega)
      · rw [hi.hig k (by omega) (by omega)]; exact h k k0 k1

set_option maxHeartbeats 1000000 in
set_option maxRecDepth 100000 in
theorem insertionSort_ok (ad : Option Addr) (nD cD zl zh : Nat) (wd : Int → Int) (mx : Int) (kc : Nat) (lb : List Value) (J : World → Prop) (l : List Int) (a b : Int) (w : World) (hD : Ow 3 encI 1 zl zh w ad cD l) (hln : l.length = nD) (hn8 : nD ≤ 1048576) (ha : 0 ≤ a) (hab : a ≤ b) (hb : b ≤ nD) (hinc : ∀ p q : Int, a ≤ p → p < q → q < b → el l p < el l q) (hval : ValR mx nD l) (hkc : Callable Try.prog kc) (hJ : CjI ad J w) (hcmp : ∀ (x y : Int) (w1 : World), (0 ≤ x ∧ x < mx) → (0 ≤ y ∧ y < mx) → J w1 → Cal Try.prog kc ([.int .i64 x, .int .i64 y] ++ lb) w1 (fun v w2 => v = .int .i64 (wd x - wd y) ∧ Ext w1 w2))  : Cal Try.prog 74 [.slice ad nD cD, .int .i64 a, .int .i64 b, .func (.func kc) #[] lb.toArray] w (fun v w' => ∃ l', v = .tuple #[] ∧ SrtR wd l' a b ∧ Frm l l' a b ∧ Ow 3 encI 1 zl zh w' ad cD l' ∧ Out (blk ad) (hi1 ad) w w') := by
 have hE : Out (blk ad) (hi1 ad) w w := Out.refl _ _ w
 refine enter Try.func74 rfl Try.ntmps74 rfl ?_
 refine wp_seq ?_
 refine rg ?_
 refine st (mvI rfl) ?_
 refine st (y_add rfl rfl (by omega)) ?_
 refine st (asI rfl) ?_
 refine rg_end ?_
 refine n_then ?_
 refine wp_block ?_
 refine lp (γ := Int × List Int) [8, 9, 12, 13, 14, 15, 16, 17, 18, 19, 20, 21, 22, 23, 24, 25, 26, 27, 28, 29, 30, 31, 32, 33, 34, 35, 36, 37, 38, 39, 40, 41, 42, 43, 44, 45, 46, 47, 48, 49, 50, 51, 52] (fun ⟨i, cur0⟩ => [(8, .int .i64 i)]) (fun ⟨i, cur0⟩ w_ => Out (blk ad) (hi1 ad) w w_ ∧ a + 1 ≤ i ∧ (i ≤ b ∨ i = a + 1) ∧ (i = a + 1 → cur0 = l) ∧ SrtR wd cur0 a i ∧ Frm l cur0 a i ∧ Ow 3 encI 1 zl zh w_ ad cD  cur0) (fun ⟨i, cur0⟩ => (b - i).toNat) (a + 1, l) ⟨rfl, trivial⟩ ⟨Out.refl _ _ _, by omega, .inr rfl, fun _ => rfl, (fun p q hp hpq hq => by omega), Frm.refl _ _ _, hD⟩ ?_
 rintro ⟨i, cur0⟩ hav_ w1 ⟨ho2, hi1_, hib, h1i, hsr, hfr, hD⟩
 have hlp0 := ho2
 have hz3 := ho2.size
 replace hJ := hJ.out ho2 (by first | omega | (simp only [blk_some, hi1_some] at *; omega))
 replace hE := hE.step ho2 (by first | omega | (simp only [blk_some, hi1_some] at *; omega))
 refine wp_seq ?_
 refine wp_seq ?_
 refine rg ?_
 refine st (mvI rfl) ?_
 refine st (mvI rfl) ?_
 refine st (y_lss rfl rfl) ?_
 refine rg_end ?_
 refine n_then ?_
 refine cnd rfl (fun hc0 => ?_) (fun hc0 => ?_)
 ·
  try simp only [nm] at hc0
  have hcl0 := hfr.len
  have hv1 := hval.frm hfr hln ha (by omega)
  refine wp_skip ?_
  refine n_then ?_
  refine wp_seq ?_
  refine wp_block ?_
  refine wp_seq ?_
  refine rg ?_
  refine st (mvI rfl) ?_
  refine st (asI rfl) ?_
  refine rg_end ?_
  refine n_then ?_
  refine wp_block ?_
  refine lp (γ := Int × List Int) [9, 18, 19, 20, 21, 22, 23, 24, 25, 26, 27, 28, 29, 30, 31, 32, 33, 34, 35, 36, 37, 38, 39, 40, 41, 42, 43, 44, 45, 46, 47, 48, 49, 50, 51, 52] (fun ⟨j, cur⟩ => [(9, .int .i64 j)]) (fun ⟨j, cur⟩ w_ => Out (blk ad) (hi1 ad) w1 w_ ∧ a ≤ j ∧ j ≤ i ∧ InsI wd cur0 cur a j i ∧ Ow 3 encI 1 zl zh w_ ad cD  cur) (fun ⟨j, cur⟩ => (j - a).toNat) (i, cur0) ⟨rfl, trivial⟩ ⟨Out.refl _ _ _, by omega, by omega, InsI.start, hD⟩ ?_
  rintro ⟨j, cur⟩ hav_ w4 ⟨ho5, hj, hji, hin, hD⟩
  have hlp1 := ho5
  have hz6 := ho5.size
  replace hJ := hJ.out ho5 (by first | omega | (simp only [blk_some, hi1_some] at *; omega))
  replace hE := hE.step ho5 (by first | omega | (simp only [blk_some, hi1_some] at *; omega))
  replace hlp0 := hlp0.step ho5 (by first | omega | (simp only [blk_some, hi1_some] at *; omega))
  have hcl : cur.length = nD := by have := hin.len; omega
  have hvc := hv1.ins hin (by omega) (by omega) hji (by omega)
  refine wp_seq ?_
  refine wp_seq ?_
  refine rgD 14 (fun w_ => Ext w4 w_) (fun i => false) mixed (by kernel_rfl) ?_
  intro w7 ho8 hs9
  refine ⟨ho8, ?_⟩
  have hx10 := ho8
  refine tn rfl (fun _ hG => mvI rfl) ?_
  refine tn rfl (fun _ hG => mvI rfl) ?_
  refine tn rfl (fun _ hG => y_gtr rfl rfl) ?_
  refine tn rfl (fun _ hG => mvB rfl) ?_
  refine gspT 21 rfl (fun hg11 => ?_) (fun hg11 => ?_)
  ·
   have hg11n := hg11; try simp only [nm] at hg11n
   refine tng rfl rfl rfl hg11 (fun _ hG => mvF rfl) ?_
   refine tng rfl rfl rfl hg11 (fun _ hG => mvS rfl) ?_
   refine tng rfl rfl rfl hg11 (fun _ hG => mvI rfl) ?_
   refine tng rfl rfl rfl hg11 (fun _ hG => y_ix (hD.ext hG).sl sl22 rfl (hcl.symm) rfl (by omega) (by omega)) ?_
   refine tng rfl rfl rfl hg11 (fun _ hG => y_le (hD.ext hG).sl na3 rfl (by omega) (by omega) rfl) ?_
   refine tng rfl rfl rfl hg11 (fun _ hG => mvS rfl) ?_
   refine tng rfl rfl rfl hg11 (fun _ hG => mvI rfl) ?_
   refine tng rfl rfl rfl hg11 (fun _ hG => y_sub rfl rfl (by omega)) ?_
   refine tng rfl rfl rfl hg11 (fun _ hG => y_ix (hD.ext hG).sl sl22 rfl (hcl.symm) rfl (by omega) (by omega)) ?_
   refine tng rfl rfl rfl hg11 (fun _ hG => y_le (hD.ext hG).sl na3 rfl (by omega) (by omega) rfl) ?_
   refine t_end ?_
   have hz12 := hx10.size
   replace hJ := hJ.ext hx10
   replace hE := hE.step hx10 (.inl (Nat.le_refl _))
   replace hlp0 := hlp0.step hx10 (.inl (Nat.le_refl _))
   replace hD := hD.ext hx10
   replace hlp1 := hlp1.step hx10 (.inl (Nat.le_refl _))
   refine scvg rfl rfl hg11 hkc rfl (hcmp (el cur j) (el cur (j - 1)) _ (hvc _ (by omega) (by omega)) (hvc _ (by omega) (by omega)) hJ.it) rfl ?_
   rintro v17 w13 ⟨rfl, ho14⟩
   have hz18 := ho14.size
   replace hJ := hJ.ext ho14
   replace hE := hE.step ho14 (.inl (Nat.le_refl _))
   replace hlp0 := hlp0.step ho14 (.inl (Nat.le_refl _))
   replace hD := hD.ext ho14
   replace hlp1 := hlp1.step ho14 (.inl (Nat.le_refl _))
   refine stg rfl rfl hg11 (y_lss rfl rfl) ?_
   refine st (y_pickT rfl hg11 (v := .bool _) rfl) ?_
   refine rg_end ?_
   refine n_then ?_
   refine cnd rfl (fun hc1 => ?_) (fun hc1 => ?_)
   ·
    try simp only [nm] at hc1
    have hlt : wd (el cur j) < wd (el cur (j - 1)) := by omega
    have hin1 := hin.step ha (by omega) (by omega) (by omega) (ltW.of hlt)
    refine wp_skip ?_
    refine n_then ?_
    refine wp_seq ?_
    refine wp_block ?_
    have hsh := (Ow.sl hD).shape
    refine rgP 16 (fun w_ => Out (blk ad) (hi1 ad) w13 w_) (fun i => Nat.beq i 9 || Nat.beq i 13 || Nat.beq i 15) (.step 0 (.step 1 (.step 2 (.step 3 (.step 4 (.step 5 (.step 6 (.step 7 (.step 8 (.step 10 (.step 11 (.step 12 (.fork 9 (.step 13 (.step 14 (.step 15 (.done)))) (.fork 13 (.step 9 (.step 14 (.step 15 (.done)))) (.last))))))))))))))) mixed (by kernel_rfl) ?_
    intro w19 ho20 hs21
    refine ⟨ho20.wide (.inl (Nat.le_refl _)), ?_⟩
    have hx22 := ho20.wide (a' := (blk ad)) (b' := (hi1 ad)) (.inl (Nat.le_refl _))
    replace hD := hD.ext ho20
    refine p_step rfl ?_
    refine tn rfl (fun _ hG => mvS rfl) ?_
    refine t_end ?_
    refine p_step rfl ?_
    refine tn rfl (fun _ hG => mvI rfl) ?_
    refine t_end ?_
    refine p_step rfl ?_
    refine tn rfl (fun _ hG => mvS rfl) ?_
    refine t_end ?_
    refine p_step rfl ?_
    refine tn rfl (fun _ hG => mvI rfl) ?_
    refine t_end ?_
    refine p_step rfl ?_
    refine tn rfl (fun _ hG => y_sub rfl rfl (by omega)) ?_
    refine t_end ?_
    refine p_step rfl ?_
    refine tn rfl (fun _ hG => mvS rfl) ?_
    refine t_end ?_
    refine p_step rfl ?_
    refine tn rfl (fun _ hG => mvI rfl) ?_
    refine t_end ?_
    refine p_step rfl ?_
    refine tn rfl (fun _ hG => y_sub rfl rfl (by omega)) ?_
    refine t_end ?_
    refine p_step rfl ?_
    refine tn rfl (fun _ hG => y_ix (hsh _) sl22 rfl (by simp; omega) rfl (by omega) (by simp; omega)) ?_
    refine t_end ?_
    refine p_step rfl ?_
    refine tn rfl (fun _ hG => mvS rfl) ?_
    refine t_end ?_
    refine p_step rfl ?_
    refine tn rfl (fun _ hG => mvI rfl) ?_
    refine t_end ?_
    refine p_step rfl ?_
    refine tn rfl (fun _ hG => y_ix (hsh _) sl22 rfl (by simp; omega) rfl (by omega) (by simp; omega)) ?_
    refine t_end ?_
    refine p_fork ?_ ?_
    ·
     refine p_step rfl ?_
     refine td rfl (d_y (y_le hD.sl na3 rfl (by omega) (by omega) rfl) ?_)
     refine ⟨hx22, ?_⟩
     refine t_end ?_
     refine p_step rfl ?_
     refine td rfl (d_y (y_le hD.sl na3 rfl (by omega) (by omega) rfl) ?_)
     refine ⟨hx22, ?_⟩
     refine t_end ?_
     refine p_step rfl ?_
     refine tn rfl (fun _ hG => y_ix (hsh _) sl22 rfl (by simp; omega) rfl (by omega) (by simp; omega)) ?_
     refine t_end ?_
     refine p_step rfl ?_
     refine td0 rfl (d_se (j := 0) (e' := (el cur (j - 1))) hD sz3 rfl rfl rfl (by omega) (by omega) (Nat.le_of_ble_eq_true rfl) rfl ?_)
     intro w23 hs25 ho24 hD'
     have hrhD := hD.rng
     clear hD; have hD := hD'; clear hD'
     have hx26 : Out (blk ad) (hi1 ad) w13 w23 := hx22.step ho24 (by first | omega | (simp only [blk_some, hi1_some] at *; omega))
     have hz27 := ho24.size
     refine ⟨hx26, ?_⟩
     refine t_end ?_
     refine p_done ?_
     have hz28 := hx26.size
     replace hJ := hJ.out hx26 (by first | omega | (simp only [blk_some, hi1_some] at *; omega))
     replace hE := hE.step hx26 (by first | omega | (simp only [blk_some, hi1_some] at *; omega))
     replace hlp0 := hlp0.step hx26 (by first | omega | (simp only [blk_some, hi1_some] at *; omega))
     replace hlp1 := hlp1.step hx26 (by first | omega | (simp only [blk_some, hi1_some] at *; omega))
     refine st (y_ix hD.sl sl22 rfl (by simp; omega) rfl (by omega) (by simp; omega)) ?_
     refine sd0 (d_se (j := 0) (e' := (el cur j)) hD sz3 rfl rfl rfl (by omega) (by simp; omega) (Nat.le_of_ble_eq_true rfl) rfl ?_)
     intro w29 hs31 ho30 hD'
     have hrhD := hD.rng
     clear hD; have hD := hD'; clear hD'
     have hz32 := ho30.size
     replace hJ := hJ.out ho30 (by first | omega | (simp only [blk_some, hi1_some] at *; omega))
     replace hE := hE.step ho30 (by first | omega | (simp only [blk_some, hi1_some] at *; omega))
     replace hlp0 := hlp0.step ho30 (by first | omega | (simp only [blk_some, hi1_some] at *; omega))
     replace hlp1 := hlp1.step ho30 (by first | omega | (simp only [blk_some, hi1_some] at *; omega))
     refine rg_end ?_
     refine n_blk ?_
     refine n_then ?_
     refine rg ?_
     refine st (mvI rfl) ?_
     refine st (y_sub rfl rfl (by omega)) ?_
     refine st (asI rfl) ?_
     refine rg_end ?_
     exact n_then ⟨(j - 1, _), _, rfl, same_lk rfl (same_h0), ⟨rfl, trivial⟩, ⟨hlp1, by omega, by omega, hin1, hD⟩, by first | omega | (dsimp only; omega)⟩
    refine p_fork ?_ ?_
    ·
     refine p_step rfl ?_
     refine td rfl (d_y (y_le hD.sl na3 rfl (by omega) (by omega) rfl) ?_)
     refine ⟨hx22, ?_⟩
     refine t_end ?_
     refine p_step rfl ?_
     refine td rfl (d_y (y_le hD.sl na3 rfl (by omega) (by omega) rfl) ?_)
     refine ⟨hx22, ?_⟩
     refine t_end ?_
     refine p_step rfl ?_
     refine tn rfl (fun _ hG => y_ix (hsh _) sl22 rfl (by simp; omega) rfl (by omega) (by simp; omega)) ?_
     refine t_end ?_
     refine p_step rfl ?_
     refine td0 rfl (d_se (j := 0) (e' := (el cur (j - 1))) hD sz3 rfl rfl rfl (by omega) (by omega) (Nat.le_of_ble_eq_true rfl) rfl ?_)
     intro w33 hs35 ho34 hD'
     have hrhD := hD.rng
     clear hD; have hD := hD'; clear hD'
     have hx36 : Out (blk ad) (hi1 ad) w13 w33 := hx22.step ho34 (by first | omega | (simp only [blk_some, hi1_some] at *; omega))
     have hz37 := ho34.size
     refine ⟨hx36, ?_⟩
     refine t_end ?_
     refine p_done ?_
     have hz38 := hx36.size
     replace hJ := hJ.out hx36 (by first | omega | (simp only [blk_some, hi1_some] at *; omega))
     replace hE := hE.step hx36 (by first | omega | (simp only [blk_some, hi1_some] at *; omega))
     replace hlp0 := hlp0.step hx36 (by first | omega | (simp only [blk_some, hi1_some] at *; omega))
     replace hlp1 := hlp1.step hx36 (by first | omega | (simp only [blk_some, hi1_some] at *; omega))
     refine st (y_ix hD.sl sl22 rfl (by simp; omega) rfl (by omega) (by simp; omega)) ?_
     refine sd0 (d_se (j := 0) (e' := (el cur j)) hD sz3 rfl rfl rfl (by omega) (by simp; omega) (Nat.le_of_ble_eq_true rfl) rfl ?_)
     intro w39 hs41 ho40 hD'
     have hrhD := hD.rng
     clear hD; have hD := hD'; clear hD'
     have hz42 := ho40.size
     replace hJ := hJ.out ho40 (by first | omega | (simp only [blk_some, hi1_some] at *; omega))
     replace hE := hE.step ho40 (by first | omega | (simp only [blk_some, hi1_some] at *; omega))
     replace hlp0 := hlp0.step ho40 (by first | omega | (simp only [blk_some, hi1_some] at *; omega))
     replace hlp1 := hlp1.step ho40 (by first | omega | (simp only [blk_some, hi1_some] at *; omega))
     refine rg_end ?_
     refine n_blk ?_
     refine n_then ?_
     refine rg ?_
     refine st (mvI rfl) ?_
     refine st (y_sub rfl rfl (by omega)) ?_
     refine st (asI rfl) ?_
     refine rg_end ?_
     exact n_then ⟨(j - 1, _), _, rfl, same_lk rfl (same_h0), ⟨rfl, trivial⟩, ⟨hlp1, by omega, by omega, hin1, hD⟩, by first | omega | (dsimp only; omega)⟩
    exact p_last
   ·
    try simp only [nm] at hc1
    have hx : a < j → ltW wd (el cur (j - 1)) (el cur j) := fun hj => by
      refine ltW.not (by omega) ?_
      rw [hin.here, hin.low _ (by omega) (by omega), hfr.out i (by omega) (by omega) (.inr (Int.le_refl _))]
      obtain ⟨q, q0, q1, e⟩ := hfr.src (j - 1) (by omega) (by omega)
      rw [e]; exact hinc q i q0 q1 (by omega)
    obtain ⟨hsr1, hfr1⟩ := hin.done ha (by omega) (by omega) (by omega) hsr hx
    have hfr2 := (hfr.wide ha (Int.le_refl _) (show i ≤ i + 1 by omega) (by omega)).trans hfr1
    refine wp_exit ?_
    refine e_then (e_then (e_blk (?_)))
    refine n_blk ?_
    refine n_then ?_
    refine rg ?_
    refine st (mvI rfl) ?_
    refine st (y_add rfl rfl (by omega)) ?_
    refine st (asI rfl) ?_
    refine rg_end ?_
    exact n_then ⟨(i + 1, _), _, rfl, same_lk rfl (same_hav rfl (same_lk rfl (same_h0))), ⟨rfl, trivial⟩, ⟨hlp0, by omega, .inl (by omega), fun h => by omega, hsr1, hfr2, hD⟩, by first | omega | (dsimp only; omega)⟩
  ·
   have hg11n := hg11; try simp only [nm] at hg11n
   refine tns rfl rfl hg11 ?_
   refine tns rfl rfl hg11 ?_
   refine tns rfl rfl hg11 ?_
   refine tns rfl rfl hg11 ?_
   refine tns rfl rfl hg11 ?_
   refine tns rfl rfl hg11 ?_
   refine tns rfl rfl hg11 ?_
   refine tns rfl rfl hg11 ?_
   refine tns rfl rfl hg11 ?_
   refine tns rfl rfl hg11 ?_
   refine t_end ?_
   have hz43 := hx10.size
   replace hJ := hJ.ext hx10
   replace hE := hE.step hx10 (.inl (Nat.le_refl _))
   replace hlp0 := hlp0.step hx10 (.inl (Nat.le_refl _))
   replace hD := hD.ext hx10
   replace hlp1 := hlp1.step hx10 (.inl (Nat.le_refl _))
   refine sts rfl rfl hg11 ?_
   refine sts rfl rfl hg11 ?_
   refine st (y_pickF rfl hg11 (v := .bool _) rfl) ?_
   refine rg_end ?_
   refine n_then ?_
   refine cnd rfl (fun hc1 => absurd hc1 (by decide)) (fun hc1 => ?_)
   have hx : a < j → ltW wd (el cur (j - 1)) (el cur j) := fun hj => by
     refine ltW.not (by omega) ?_
     rw [hin.here, hin.low _ (by omega) (by omega), hfr.out i (by omega) (by omega) (.inr (Int.le_refl _))]
     obtain ⟨q, q0, q1, e⟩ := hfr.src (j - 1) (by omega) (by omega)
     rw [e]; exact hinc q i q0 q1 (by omega)
   obtain ⟨hsr1, hfr1⟩ := hin.done ha (by omega) (by omega) (by omega) hsr hx
   have hfr2 := (hfr.wide ha (Int.le_refl _) (show i ≤ i + 1 by omega) (by omega)).trans hfr1
   refine wp_exit ?_
   refine e_then (e_then (e_blk (?_)))
   refine n_blk ?_
   refine n_then ?_
   refine rg ?_
   refine st (mvI rfl) ?_
   refine st (y_add rfl rfl (by omega)) ?_
   refine st (asI rfl) ?_
   refine rg_end ?_
   exact n_then ⟨(i + 1, _), _, rfl, same_lk rfl (same_hav rfl (same_lk rfl (same_h0))), ⟨rfl, trivial⟩, ⟨hlp0, by omega, .inl (by omega), fun h => by omega, hsr1, hfr2, hD⟩, by first | omega | (dsimp only; omega)⟩
 ·
  try simp only [nm] at hc0
  have hend : SrtR wd cur0 a b ∧ Frm l cur0 a b := by
    rcases hib with q | q
    · have e : i = b := by omega
      subst e; exact ⟨hsr, hfr⟩
    · rw [h1i q]; exact ⟨fun p q' hp hpq hq => by omega, Frm.refl _ _ _⟩
  refine wp_exit ?_
  refine e_then (e_then (e_blk (?_)))
  refine end0 Try.results74 ?_
  exact ⟨_, rfl, hend.1, hend.2, hD, hE⟩
end Go.Proofs.Ytdgkaahghlbocaa
