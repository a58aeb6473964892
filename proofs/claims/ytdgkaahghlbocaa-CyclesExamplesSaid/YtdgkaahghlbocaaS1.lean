/-
  Walks of the functions, printed by a program out of the code and the loops' relations.
-/
import Derived.Test.YtdgkaahghlbocaaWkV
import Derived.Test.YtdgkaahghlbocaaProg
import Derived.KernelRfl
import Derived.Test.YtdgkaahghlbocaaC7
import Derived.Test.YtdgkaahghlbocaaSs
namespace Go.Proofs.Ytdgkaahghlbocaa
open Go.Wk Go.RowKit
set_option linter.unusedVariables false
set_option linter.unusedSimpArgs false
theorem cl93 : Callable Try.prog 93 := ⟨Try.call93⟩

set_option maxRecDepth 100000 in
theorem swapRange_ok (ad : Option Addr) (nD cD zl zh : Nat) (l : List Int) (a b n : Int) (fv : Value) (w : World) (hD : Ow 3 encI 1 zl zh w ad cD l) (hln : l.length = nD) (hn8 : nD ≤ 1048576) (ha : 0 ≤ a) (hn : 0 ≤ n) (hab : a + n ≤ b) (hb : b + n ≤ nD) : Cal Try.prog 93 [.slice ad nD cD, .int .i64 a, .int .i64 b, .int .i64 n, fv] w (fun v w' => ∃ l', v = .tuple #[] ∧ SwpI l l' a b n ∧ Ow 3 encI 1 zl zh w' ad cD l' ∧ Out (blk ad) (hi1 ad) w w') := by
 have hE : Out (blk ad) (hi1 ad) w w := Out.refl _ _ w
 refine enter Try.func93 rfl Try.ntmps93 rfl ?_
 refine wp_seq ?_
 refine rg ?_
 refine st (asI rfl) ?_
 refine rg_end ?_
 refine n_then ?_
 refine wp_block ?_
 refine lp (γ := Int × List Int) [10, 11, 12, 13, 14, 15, 16, 17, 18, 19, 20, 21, 22, 23, 24, 25, 26, 27, 28, 29, 30, 31, 32, 33, 34, 35, 36, 37] (fun ⟨c, cur⟩ => [(10, .int .i64 c)]) (fun ⟨c, cur⟩ w_ => Out (blk ad) (hi1 ad) w w_ ∧ 0 ≤ c ∧ c ≤ n ∧ SwpI l cur a b c ∧ Ow 3 encI 1 zl zh w_ ad cD  cur) (fun ⟨c, cur⟩ => (n - c).toNat) (0, l) ⟨rfl, trivial⟩ ⟨Out.refl _ _ _, by omega, hn, SwpI.start, hD⟩ ?_
 rintro ⟨c, cur⟩ hav_ w1 ⟨ho2, hc, hcn, hsw, hD⟩
 have hlp0 := ho2
 have hz3 := ho2.size
 replace hE := hE.step ho2 (by first | omega | (simp only [blk_some, hi1_some] at *; omega))
 refine wp_seq ?_
 refine wp_seq ?_
 refine rg ?_
 refine st (mvI rfl) ?_
 refine st (mvI rfl) ?_
 refine st (y_lss rfl rfl) ?_
 refine rg_end ?_
 refine n_then ?_
 refine cnd rfl (fun hc0 => ?_) (fun hc0 => ?_)
 ·
  try simp only [nm] at hc0
  have hcl := hsw.len
  have hcl2 : cur.length = nD := by omega
  refine wp_skip ?_
  refine n_then ?_
  refine wp_seq ?_
  refine wp_block ?_
  have hsh := (Ow.sl hD).shape
  refine rgP 22 (fun w_ => Out (blk ad) (hi1 ad) w1 w_) (fun i => Nat.beq i 13 || Nat.beq i 19 || Nat.beq i 21) (.step 0 (.step 1 (.step 2 (.step 3 (.step 4 (.step 5 (.step 6 (.step 7 (.step 8 (.step 9 (.step 10 (.step 11 (.step 12 (.step 14 (.step 15 (.step 16 (.step 17 (.step 18 (.fork 13 (.step 19 (.step 20 (.step 21 (.done)))) (.fork 19 (.step 13 (.step 20 (.step 21 (.done)))) (.last))))))))))))))))))))) mixed (by kernel_rfl) ?_
  intro w4 ho5 hs6
  refine ⟨ho5.wide (.inl (Nat.le_refl _)), ?_⟩
  have hx7 := ho5.wide (a' := (blk ad)) (b' := (hi1 ad)) (.inl (Nat.le_refl _))
  replace hD := hD.ext ho5
  refine p_step rfl ?_
  refine tn rfl (fun _ hG => mvS rfl) ?_
  refine t_end ?_
  refine p_step rfl ?_
  refine tn rfl (fun _ hG => mvI rfl) ?_
  refine t_end ?_
  refine p_step rfl ?_
  refine tn rfl (fun _ hG => mvI rfl) ?_
  refine t_end ?_
  refine p_step rfl ?_
  refine tn rfl (fun _ hG => y_add rfl rfl (by omega)) ?_
  refine t_end ?_
  refine p_step rfl ?_
  refine tn rfl (fun _ hG => mvS rfl) ?_
  refine t_end ?_
  refine p_step rfl ?_
  refine tn rfl (fun _ hG => mvI rfl) ?_
  refine t_end ?_
  refine p_step rfl ?_
  refine tn rfl (fun _ hG => mvI rfl) ?_
  refine t_end ?_
  refine p_step rfl ?_
  refine tn rfl (fun _ hG => y_add rfl rfl (by omega)) ?_
  refine t_end ?_
  refine p_step rfl ?_
  refine tn rfl (fun _ hG => mvS rfl) ?_
  refine t_end ?_
  refine p_step rfl ?_
  refine tn rfl (fun _ hG => mvI rfl) ?_
  refine t_end ?_
  refine p_step rfl ?_
  refine tn rfl (fun _ hG => mvI rfl) ?_
  refine t_end ?_
  refine p_step rfl ?_
  refine tn rfl (fun _ hG => y_add rfl rfl (by omega)) ?_
  refine t_end ?_
  refine p_step rfl ?_
  refine tn rfl (fun _ hG => y_ix (hsh _) sl22 rfl (by simp; omega) rfl (by omega) (by simp; omega)) ?_
  refine t_end ?_
  refine p_step rfl ?_
  refine tn rfl (fun _ hG => mvS rfl) ?_
  refine t_end ?_
  refine p_step rfl ?_
  refine tn rfl (fun _ hG => mvI rfl) ?_
  refine t_end ?_
  refine p_step rfl ?_
  refine tn rfl (fun _ hG => mvI rfl) ?_
  refine t_end ?_
  refine p_step rfl ?_
  refine tn rfl (fun _ hG => y_add rfl rfl (by omega)) ?_
  refine t_end ?_
  refine p_step rfl ?_
  refine tn rfl (fun _ hG => y_ix (hsh _) sl22 rfl (by simp; omega) rfl (by omega) (by simp; omega)) ?_
  refine t_end ?_
  refine p_fork ?_ ?_
  ·
   refine p_step rfl ?_
   refine td rfl (d_y (y_le hD.sl na3 rfl (by omega) (by omega) rfl) ?_)
   refine ⟨hx7, ?_⟩
   refine t_end ?_
   refine p_step rfl ?_
   refine td rfl (d_y (y_le hD.sl na3 rfl (by omega) (by omega) rfl) ?_)
   refine ⟨hx7, ?_⟩
   refine t_end ?_
   refine p_step rfl ?_
   refine tn rfl (fun _ hG => y_ix (hsh _) sl22 rfl (by simp; omega) rfl (by omega) (by simp; omega)) ?_
   refine t_end ?_
   refine p_step rfl ?_
   refine td0 rfl (d_se (j := 0) (e' := (el cur (b + c))) hD sz3 rfl rfl rfl (by omega) (by omega) (Nat.le_of_ble_eq_true rfl) rfl ?_)
   intro w8 hs10 ho9 hD'
   have hrhD := hD.rng
   clear hD; have hD := hD'; clear hD'
   have hx11 : Out (blk ad) (hi1 ad) w1 w8 := hx7.step ho9 (by first | omega | (simp only [blk_some, hi1_some] at *; omega))
   have hz12 := ho9.size
   refine ⟨hx11, ?_⟩
   refine t_end ?_
   refine p_done ?_
   have hz13 := hx11.size
   replace hE := hE.step hx11 (by first | omega | (simp only [blk_some, hi1_some] at *; omega))
   replace hlp0 := hlp0.step hx11 (by first | omega | (simp only [blk_some, hi1_some] at *; omega))
   refine st (y_ix hD.sl sl22 rfl (by simp; omega) rfl (by omega) (by simp; omega)) ?_
   refine sd0 (d_se (j := 0) (e' := (el cur (a + c))) hD sz3 rfl rfl rfl (by omega) (by simp; omega) (Nat.le_of_ble_eq_true rfl) rfl ?_)
   intro w14 hs16 ho15 hD'
   have hrhD := hD.rng
   clear hD; have hD := hD'; clear hD'
   have hz17 := ho15.size
   replace hE := hE.step ho15 (by first | omega | (simp only [blk_some, hi1_some] at *; omega))
   replace hlp0 := hlp0.step ho15 (by first | omega | (simp only [blk_some, hi1_some] at *; omega))
   have hsw1 := hsw.step ha hc (by omega) (by omega)
   refine rg_end ?_
   refine n_blk ?_
   refine n_then ?_
   refine rg ?_
   refine st (mvI rfl) ?_
   refine st (y_add rfl rfl (by omega)) ?_
   refine st (asI rfl) ?_
   refine rg_end ?_
   exact n_then ⟨(c + 1, _), _, rfl, same_lk rfl (same_h0), ⟨rfl, trivial⟩, ⟨hlp0, by omega, by omega, hsw1, hD⟩, by first | omega | (dsimp only; omega)⟩
  refine p_fork ?_ ?_
  ·
   refine p_step rfl ?_
   refine td rfl (d_y (y_le hD.sl na3 rfl (by omega) (by omega) rfl) ?_)
   refine ⟨hx7, ?_⟩
   refine t_end ?_
   refine p_step rfl ?_
   refine td rfl (d_y (y_le hD.sl na3 rfl (by omega) (by omega) rfl) ?_)
   refine ⟨hx7, ?_⟩
   refine t_end ?_
   refine p_step rfl ?_
   refine tn rfl (fun _ hG => y_ix (hsh _) sl22 rfl (by simp; omega) rfl (by omega) (by simp; omega)) ?_
   refine t_end ?_
   refine p_step rfl ?_
   refine td0 rfl (d_se (j := 0) (e' := (el cur (b + c))) hD sz3 rfl rfl rfl (by omega) (by omega) (Nat.le_of_ble_eq_true rfl) rfl ?_)
   intro w18 hs20 ho19 hD'
   have hrhD := hD.rng
   clear hD; have hD := hD'; clear hD'
   have hx21 : Out (blk ad) (hi1 ad) w1 w18 := hx7.step ho19 (by first | omega | (simp only [blk_some, hi1_some] at *; omega))
   have hz22 := ho19.size
   refine ⟨hx21, ?_⟩
   refine t_end ?_
   refine p_done ?_
   have hz23 := hx21.size
   replace hE := hE.step hx21 (by first | omega | (simp only [blk_some, hi1_some] at *; omega))
   replace hlp0 := hlp0.step hx21 (by first | omega | (simp only [blk_some, hi1_some] at *; omega))
   refine st (y_ix hD.sl sl22 rfl (by simp; omega) rfl (by omega) (by simp; omega)) ?_
   refine sd0 (d_se (j := 0) (e' := (el cur (a + c))) hD sz3 rfl rfl rfl (by omega) (by simp; omega) (Nat.le_of_ble_eq_true rfl) rfl ?_)
   intro w24 hs26 ho25 hD'
   have hrhD := hD.rng
   clear hD; have hD := hD'; clear hD'
   have hz27 := ho25.size
   replace hE := hE.step ho25 (by first | omega | (simp only [blk_some, hi1_some] at *; omega))
   replace hlp0 := hlp0.step ho25 (by first | omega | (simp only [blk_some, hi1_some] at *; omega))
   have hsw1 := hsw.step ha hc (by omega) (by omega)
   refine rg_end ?_
   refine n_blk ?_
   refine n_then ?_
   refine rg ?_
   refine st (mvI rfl) ?_
   refine st (y_add rfl rfl (by omega)) ?_
   refine st (asI rfl) ?_
   refine rg_end ?_
   exact n_then ⟨(c + 1, _), _, rfl, same_lk rfl (same_h0), ⟨rfl, trivial⟩, ⟨hlp0, by omega, by omega, hsw1, hD⟩, by first | omega | (dsimp only; omega)⟩
  exact p_last
 ·
  try simp only [nm] at hc0
  have hcn : c = n := by omega
  subst hcn
  refine wp_exit ?_
  refine e_then (e_then (e_blk (?_)))
  refine end0 Try.results93 ?_
  exact ⟨_, rfl, hsw, hD, hE⟩

set_option maxRecDepth 100000 in
theorem rotate_ok (ad : Option Addr) (nD cD zl zh : Nat) (l : List Int) (a m b : Int) (fn_ : Fn) (x1_ x2_ : Array Value) (w : World) (hD : Ow 3 encI 1 zl zh w ad cD l) (hln : l.length = nD) (hn8 : nD ≤ 1048576) (ha : 0 ≤ a) (ham : a < m) (hmb : m < b) (hb : b ≤ nD) : Cal Try.prog 87 [.slice ad nD cD, .int .i64 a, .int .i64 m, .int .i64 b, .func fn_ x1_ x2_] w (fun v w' => ∃ l', v = .tuple #[] ∧ (l'.length = l.length ∧ ∀ k : Int, 0 ≤ k → k < l.length → el l' k = rotF l a m b k) ∧ Ow 3 encI 1 zl zh w' ad cD l' ∧ Out (blk ad) (hi1 ad) w w') := by
 have hE : Out (blk ad) (hi1 ad) w w := Out.refl _ _ w
 refine enter Try.func87 rfl Try.ntmps87 rfl ?_
 refine wp_seq ?_
 refine rg ?_
 refine st (mvI rfl) ?_
 refine st (mvI rfl) ?_
 refine st (y_sub rfl rfl (by omega)) ?_
 refine st (asI rfl) ?_
 refine rg_end ?_
 refine n_then ?_
 refine wp_seq ?_
 refine rg ?_
 refine st (mvI rfl) ?_
 refine st (mvI rfl) ?_
 refine st (y_sub rfl rfl (by omega)) ?_
 refine st (asI rfl) ?_
 refine rg_end ?_
 refine n_then ?_
 refine wp_seq ?_
 refine wp_block ?_
 refine lp (γ := Int × Int × List Int) [10, 11, 18, 19, 20, 21, 22, 23, 24, 25, 26, 27, 28, 29, 30, 31, 32, 33, 34, 35, 36, 37, 38, 39, 40, 41, 42, 43, 44, 45, 46, 47, 48, 49] (fun ⟨i, j, cur⟩ => [(10, .int .i64 i), (11, .int .i64 j)]) (fun ⟨i, j, cur⟩ w_ => Out (blk ad) (hi1 ad) w w_ ∧ 0 < i ∧ 0 < j ∧ i ≤ m - a ∧ j ≤ b - m ∧ RotI l cur a m b i j ∧ Ow 3 encI 1 zl zh w_ ad cD  cur) (fun ⟨i, j, cur⟩ => (i + j).toNat) (m - a, b - m, l) ⟨rfl, rfl, trivial⟩ ⟨Out.refl _ _ _, by omega, by omega, by omega, by omega, RotI.start ham hmb, hD⟩ ?_
 rintro ⟨i, j, cur⟩ hav_ w1 ⟨ho2, hi0, hj0, him, hjb, hro, hD⟩
 have hlp0 := ho2
 have hz3 := ho2.size
 replace hE := hE.step ho2 (by first | omega | (simp only [blk_some, hi1_some] at *; omega))
 refine wp_seq ?_
 refine wp_seq ?_
 refine rg ?_
 refine st (mvI rfl) ?_
 refine st (mvI rfl) ?_
 refine st (y_neq rfl rfl) ?_
 refine rg_end ?_
 refine n_then ?_
 refine cnd rfl (fun hc0 => ?_) (fun hc0 => ?_)
 ·
  try simp only [nm] at hc0
  refine wp_skip ?_
  refine n_then ?_
  refine wp_block ?_
  refine wp_seq ?_
  refine rg ?_
  refine st (mvI rfl) ?_
  refine st (mvI rfl) ?_
  refine st (y_gtr rfl rfl) ?_
  refine rg_end ?_
  refine n_then ?_
  refine cnd rfl (fun hc1 => ?_) (fun hc1 => ?_)
  ·
   try simp only [nm] at hc1
   refine wp_seq ?_
   refine rg ?_
   refine st (mvS rfl) ?_
   refine st (mvI rfl) ?_
   refine st (mvI rfl) ?_
   refine st (y_sub rfl rfl (by omega)) ?_
   refine st (mvI rfl) ?_
   refine st (mvI rfl) ?_
   refine st (mvF rfl) ?_
   refine sc cl93 (swapRange_ok ad nD cD zl zh cur (m - i) m j _ _ hD (by have := hro.len; omega) hn8 (by omega) (by omega) (by omega) (by omega)) rfl ?_
   rintro v8 w4 ⟨l1, rfl, hsw, hD1, ho5⟩
   clear hD
   have hD := hD1
   clear hD1
   have hz9 := ho5.size
   replace hE := hE.step ho5 (by first | omega | (simp only [blk_some, hi1_some] at *; omega))
   replace hlp0 := hlp0.step ho5 (by first | omega | (simp only [blk_some, hi1_some] at *; omega))
   refine rg_end ?_
   refine n_then ?_
   refine rg ?_
   refine st (mvI rfl) ?_
   refine st (mvI rfl) ?_
   refine st (y_sub rfl rfl (by omega)) ?_
   refine st (asI rfl) ?_
   have hro1 := hro.left hj0 (by omega) (by omega) (by omega) hsw
   refine rg_end ?_
   refine n_blk ?_
   exact n_then ⟨(_, _, _), _, rfl, same_lk rfl (same_h0), ⟨rfl, rfl, trivial⟩, ⟨hlp0, by omega, by omega, by omega, by omega, hro1, hD⟩, by first | omega | (dsimp only; omega)⟩
  ·
   try simp only [nm] at hc1
   refine wp_seq ?_
   refine rg ?_
   refine st (mvS rfl) ?_
   refine st (mvI rfl) ?_
   refine st (mvI rfl) ?_
   refine st (y_sub rfl rfl (by omega)) ?_
   refine st (mvI rfl) ?_
   refine st (mvI rfl) ?_
   refine st (y_add rfl rfl (by omega)) ?_
   refine st (mvI rfl) ?_
   refine st (y_sub rfl rfl (by omega)) ?_
   refine st (mvI rfl) ?_
   refine st (mvF rfl) ?_
   refine sc cl93 (swapRange_ok ad nD cD zl zh cur (m - i) (m + j - i) i _ _ hD (by have := hro.len; omega) hn8 (by omega) (by omega) (by omega) (by omega)) rfl ?_
   rintro v14 w10 ⟨l1, rfl, hsw, hD1, ho11⟩
   clear hD
   have hD := hD1
   clear hD1
   have hz15 := ho11.size
   replace hE := hE.step ho11 (by first | omega | (simp only [blk_some, hi1_some] at *; omega))
   replace hlp0 := hlp0.step ho11 (by first | omega | (simp only [blk_some, hi1_some] at *; omega))
   refine rg_end ?_
   refine n_then ?_
   refine rg ?_
   refine st (mvI rfl) ?_
   refine st (mvI rfl) ?_
   refine st (y_sub rfl rfl (by omega)) ?_
   refine st (asI rfl) ?_
   have hro1 := hro.right hi0 (by omega) (by omega) (by omega) hsw
   refine rg_end ?_
   refine n_blk ?_
   exact n_then ⟨(_, _, _), _, rfl, same_lk rfl (same_h0), ⟨rfl, rfl, trivial⟩, ⟨hlp0, by omega, by omega, by omega, by omega, hro1, hD⟩, by first | omega | (dsimp only; omega)⟩
 ·
  try simp only [nm] at hc0
  have hij : i = j := by omega
  subst hij
  refine wp_exit ?_
  refine e_then (e_then (e_blk (?_)))
  refine n_then ?_
  refine rg ?_
  refine st (mvS rfl) ?_
  refine st (mvI rfl) ?_
  refine st (mvI rfl) ?_
  refine st (y_sub rfl rfl (by omega)) ?_
  refine st (mvI rfl) ?_
  refine st (mvI rfl) ?_
  refine st (mvF rfl) ?_
  refine sc cl93 (swapRange_ok ad nD cD zl zh cur (m - i) m i _ _ hD (by have := hro.len; omega) hn8 (by omega) (by omega) (by omega) (by omega)) rfl ?_
  rintro v20 w16 ⟨l1, rfl, hsw, hD1, ho17⟩
  clear hD
  have hD := hD1
  clear hD1
  have hz21 := ho17.size
  replace hE := hE.step ho17 (by first | omega | (simp only [blk_some, hi1_some] at *; omega))
  refine rg_end ?_
  refine end0 Try.results87 ?_
  have hfin := hro.last hi0 (by omega) (by omega) hsw
  exact ⟨_, rfl, hfin, hD, hE⟩
end Go.Proofs.Ytdgkaahghlbocaa
