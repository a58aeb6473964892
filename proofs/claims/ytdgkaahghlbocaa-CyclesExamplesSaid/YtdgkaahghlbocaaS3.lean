/-
  Walks of the functions, printed by a program out of the code and the loops' relations.
-/
import Derived.Test.YtdgkaahghlbocaaWkV
import Derived.Test.YtdgkaahghlbocaaProg
import Derived.KernelRfl
import Derived.Test.YtdgkaahghlbocaaS2
namespace Go.Proofs.Ytdgkaahghlbocaa
open Go.Wk Go.RowKit
set_option linter.unusedVariables false
set_option linter.unusedSimpArgs false
theorem cl75 : Callable Try.prog 75 := ⟨Try.call75⟩
theorem cl87 : Callable Try.prog 87 := ⟨Try.call87⟩

theorem half_eq {x : Int} (h0 : 0 ≤ x) (h1 : x ≤ 4611686018427387903) : IntKind.i64.wrap ((IntKind.u64.wrap x).fdiv (2 ^ (min (1 : Int).toNat IntKind.u64.bits))) = x / 2 := by
  have e1 : IntKind.u64.wrap x = x := IntWalk.u64_in x (by omega)
  have e2 : (2 : Int) ^ (min (1 : Int).toNat IntKind.u64.bits) = 2 := by decide
  rw [e1, e2, Int.fdiv_eq_ediv_of_nonneg x (by decide : (0 : Int) ≤ 2)]
  exact IntWalk.i64_in _ (by omega)
theorem cut_up {wd : Int → Int} {l : List Int} {a m b mid s0 r0 s r c : Int} (h : CutI wd l (mid + m) s0 r0 s r) (hL : SrtR wd l a m) (hR : SrtR wd l m b) (hx : ∀ c : Int, s0 ≤ c → c < r0 → a ≤ c ∧ c < m ∧ m ≤ mid + m - 1 - c ∧ mid + m - 1 - c < b) (h1 : s ≤ c) (h2 : c < r) (hq : ltW wd (el l c) (el l (mid + m - 1 - c))) : CutI wd l (mid + m) s0 r0 (c + 1) r := by
  obtain ⟨⟨a1, a2, a3⟩, b1, c1⟩ := h
  refine ⟨⟨by omega, by omega, a3⟩, fun k k0 k1 => ?_, c1⟩
  have x1 := hx k k0 (by omega)
  have x2 := hx c (by omega) (by omega)
  exact hL.le (i := k) (j := c) x1.1 (by omega) x2.2.1 (hR.ge (i := mid + m - 1 - c) (j := mid + m - 1 - k) x2.2.2.1 (by omega) x1.2.2.2 hq)
theorem cut_down {wd : Int → Int} {l : List Int} {a m b mid s0 r0 s r c : Int} (h : CutI wd l (mid + m) s0 r0 s r) (hL : SrtR wd l a m) (hR : SrtR wd l m b) (hx : ∀ c : Int, s0 ≤ c → c < r0 → a ≤ c ∧ c < m ∧ m ≤ mid + m - 1 - c ∧ mid + m - 1 - c < b) (h1 : s ≤ c) (h2 : c < r) (hq : ltW wd (el l (mid + m - 1 - c)) (el l c)) : CutI wd l (mid + m) s0 r0 s c := by
  obtain ⟨⟨a1, a2, a3⟩, b1, c1⟩ := h
  refine ⟨⟨a1, by omega, by omega⟩, b1, fun k k0 k1 => ?_⟩
  have x1 := hx k (by omega) k1
  have x2 := hx c (by omega) (by omega)
  exact hR.le (i := mid + m - 1 - k) (j := mid + m - 1 - c) x1.2.2.1 (by omega) x2.2.2.2 (hL.ge (i := c) (j := k) x2.1 (by omega) x1.2.1 hq)
theorem cut_rng {a m b mid s0 r0 : Int} (ham : a < m) (hmb : m < b) (hmid : mid = (a + b) / 2) (hs0 : (mid < m ∧ s0 = mid + m - b ∧ r0 = mid) ∨ (m ≤ mid ∧ s0 = a ∧ r0 = m)) : ∀ c : Int, s0 ≤ c → c < r0 → a ≤ c ∧ c < m ∧ m ≤ mid + m - 1 - c ∧ mid + m - 1 - c < b := fun c h1 h2 => by omega

set_option maxHeartbeats 4000000 in
set_option maxRecDepth 100000 in
theorem symMerge0_ok (ad : Option Addr) (nD cD zl zh : Nat) (wd : Int → Int) (mx : Int) (kc : Nat) (lb : List Value) (J : World → Prop) (l : List Int) (a m b : Int) (w : World) (hD : Ow 3 encI 1 zl zh w ad cD l) (hln : l.length = nD) (hn8 : nD ≤ 1048576) (ha : 0 ≤ a) (ham : a < m) (hmb : m < b) (hb : b ≤ nD) (hL : SrtR wd l a m) (hR : SrtR wd l m b) (hlr : LRn l a m b) (hval : ValR mx nD l) (hkc : Callable Try.prog kc) (hJ : CjI ad J w) (hcmp : ∀ (x y : Int) (w1 : World), (0 ≤ x ∧ x < mx) → (0 ≤ y ∧ y < mx) → J w1 → Cal Try.prog kc ([.int .i64 x, .int .i64 y] ++ lb) w1 (fun v w2 => v = .int .i64 (wd x - wd y) ∧ Ext w1 w2)) (ih : ∀ (l : List Int) (a' m' b' : Int) (w : World), b' - a' < b - a → Ow 3 encI 1 zl zh w ad cD l → l.length = nD → 0 ≤ a' → a' < m' → m' < b' → b' ≤ nD → SrtR wd l a' m' → SrtR wd l m' b' → LRn l a' m' b' → ValR mx nD l → CjI ad J w → Cal Try.prog 75 [.slice ad nD cD, .int .i64 a', .int .i64 m', .int .i64 b', .func (.func kc) #[] lb.toArray] w (fun v w' => ∃ l', v = .tuple #[] ∧ SrtR wd l' a' b' ∧ Frm l l' a' b' ∧ Ow 3 encI 1 zl zh w' ad cD l' ∧ Out (blk ad) (hi1 ad) w w'))  : Cal Try.prog 75 [.slice ad nD cD, .int .i64 a, .int .i64 m, .int .i64 b, .func (.func kc) #[] lb.toArray] w (fun v w' => ∃ l', v = .tuple #[] ∧ SrtR wd l' a b ∧ Frm l l' a b ∧ Ow 3 encI 1 zl zh w' ad cD l' ∧ Out (blk ad) (hi1 ad) w w') := by
 have hE : Out (blk ad) (hi1 ad) w w := Out.refl _ _ w
 refine enter Try.func75 rfl Try.ntmps75 rfl ?_
 refine wp_seq ?_
 refine wp_seq ?_
 refine rg ?_
 refine st (mvI rfl) ?_
 refine st (mvI rfl) ?_
 refine st (y_sub rfl rfl (by omega)) ?_
 refine st (y_eql rfl rfl) ?_
 refine rg_end ?_
 refine n_then ?_
 refine cnd rfl (fun hc0 => ?_) (fun hc0 => ?_)
 ·
  try simp only [nm] at hc0
  have hma : m = a + 1 := by omega
  subst hma
  refine wp_seq ?_
  refine rg ?_
  refine st (mvI rfl) ?_
  refine st (asI rfl) ?_
  refine rg_end ?_
  refine n_then ?_
  refine wp_seq ?_
  refine rg ?_
  refine st (mvI rfl) ?_
  refine st (asI rfl) ?_
  refine rg_end ?_
  refine n_then ?_
  refine wp_seq ?_
  refine wp_block ?_
  refine lp (γ := Int × Int) [10, 11, 12, 31, 32, 33, 34, 35, 36, 37, 38, 39, 40, 41, 42, 43, 44, 45, 46, 47, 48, 49, 50, 51, 52, 53] (fun ⟨i, j⟩ => [(10, .int .i64 i), (11, .int .i64 j)]) (fun ⟨i, j⟩ w_ => Ext w w_ ∧ a + 1 ≤ i ∧ i ≤ j ∧ j ≤ b ∧ (∀ k : Int, a + 1 ≤ k → k < i → ltW wd (el l k) (el l a)) ∧ (∀ k : Int, j ≤ k → k < b → ltW wd (el l a) (el l k))) (fun ⟨i, j⟩ => (j - i).toNat) (a + 1, b) ⟨rfl, rfl, trivial⟩ ⟨Out.refl _ _ _, by omega, by omega, by omega, (fun k k0 k1 => by omega), (fun k k0 k1 => by omega)⟩ ?_
  rintro ⟨i, j⟩ hav_ w1 ⟨ho2, hi0, hij, hjb, hlo, hhi⟩
  have hlp0 := ho2
  have hz3 := ho2.size
  replace hD := hD.ext ho2
  replace hJ := hJ.ext ho2
  replace hE := hE.step ho2 (.inl (Nat.le_refl _))
  refine wp_seq ?_
  refine wp_seq ?_
  refine rg ?_
  refine st (mvI rfl) ?_
  refine st (mvI rfl) ?_
  refine st (y_lss rfl rfl) ?_
  refine rg_end ?_
  refine n_then ?_
  refine cnd rfl (fun hc1 => ?_) (fun hc1 => ?_)
  ·
   try simp only [nm] at hc1
   refine wp_skip ?_
   refine n_then ?_
   refine wp_block ?_
   refine wp_seq ?_
   refine rg ?_
   refine st (mvI rfl) ?_
   refine st (mvI rfl) ?_
   refine st (y_add rfl rfl (by omega)) ?_
   refine st (y_conv rfl rfl Try.underlying57) ?_
   refine st (y_shr rfl rfl (by omega)) ?_
   refine st (y_conv rfl rfl Try.underlying3) ?_
   rw [half_eq (x := i + j) (by omega) (by omega)]
   refine st (asI rfl) ?_
   refine rg_end ?_
   refine n_then ?_
   refine wp_seq ?_
   refine rgD 9 (fun w_ => Ext w1 w_) (fun i => false) mixed (by kernel_rfl) ?_
   intro w4 ho5 hs6
   refine ⟨ho5, ?_⟩
   have hx7 := ho5
   have hvc := hval
   refine tn rfl (fun _ hG => mvF rfl) ?_
   refine tn rfl (fun _ hG => mvS rfl) ?_
   refine tn rfl (fun _ hG => mvI rfl) ?_
   refine tn rfl (fun _ hG => y_ix (hD.ext hG).sl sl22 rfl (hln.symm) rfl (by omega) (by omega)) ?_
   refine tn rfl (fun _ hG => y_le (hD.ext hG).sl na3 rfl (by omega) (by omega) rfl) ?_
   refine tn rfl (fun _ hG => mvS rfl) ?_
   refine tn rfl (fun _ hG => mvI rfl) ?_
   refine tn rfl (fun _ hG => y_ix (hD.ext hG).sl sl22 rfl (hln.symm) rfl (by omega) (by omega)) ?_
   refine tn rfl (fun _ hG => y_le (hD.ext hG).sl na3 rfl (by omega) (by omega) rfl) ?_
   refine t_end ?_
   have hz8 := hx7.size
   replace hD := hD.ext hx7
   replace hJ := hJ.ext hx7
   replace hE := hE.step hx7 (.inl (Nat.le_refl _))
   replace hlp0 := hlp0.step hx7 (.inl (Nat.le_refl _))
   refine scv hkc rfl (hcmp (el l ((i + j) / 2)) (el l a) _ (hvc _ (by omega) (by omega)) (hvc _ (by omega) (by omega)) hJ.it) rfl ?_
   rintro v13 w9 ⟨rfl, ho10⟩
   have hz14 := ho10.size
   replace hD := hD.ext ho10
   replace hJ := hJ.ext ho10
   replace hE := hE.step ho10 (.inl (Nat.le_refl _))
   replace hlp0 := hlp0.step ho10 (.inl (Nat.le_refl _))
   refine st (y_lss rfl rfl) ?_
   refine rg_end ?_
   refine n_then ?_
   refine cnd rfl (fun hc2 => ?_) (fun hc2 => ?_)
   ·
    try simp only [nm] at hc2
    have hq1 : ltW wd (el l ((i + j) / 2)) (el l a) := ltW.of (by omega)
    have hlo1 : ∀ k : Int, a + 1 ≤ k → k < (i + j) / 2 + 1 → ltW wd (el l k) (el l a) := fun k k0 k1 => hR.le k0 (by omega) (by omega) hq1
    refine rg ?_
    refine st (mvI rfl) ?_
    refine st (y_add rfl rfl (by omega)) ?_
    refine st (asI rfl) ?_
    refine rg_end ?_
    refine n_blk ?_
    exact n_then ⟨(_, _), _, rfl, same_lk rfl (same_h0), ⟨rfl, rfl, trivial⟩, ⟨hlp0, by omega, by omega, by omega, by first | exact hlo1 | exact hlo, by first | exact hhi1 | exact hhi⟩, by first | omega | (dsimp only; omega)⟩
   ·
    try simp only [nm] at hc2
    have hq1 : ltW wd (el l a) (el l ((i + j) / 2)) := ltW.not (by omega) (hlr _ _ (by omega) (by omega) (by omega) (by omega))
    have hhi1 : ∀ k : Int, (i + j) / 2 ≤ k → k < b → ltW wd (el l a) (el l k) := fun k k0 k1 => hR.ge (by omega) k0 k1 hq1
    refine rg ?_
    refine st (mvI rfl) ?_
    refine st (asI rfl) ?_
    refine rg_end ?_
    refine n_blk ?_
    exact n_then ⟨(_, _), _, rfl, same_lk rfl (same_h0), ⟨rfl, rfl, trivial⟩, ⟨hlp0, by omega, by omega, by omega, by first | exact hlo1 | exact hlo, by first | exact hhi1 | exact hhi⟩, by first | omega | (dsimp only; omega)⟩
  ·
   try simp only [nm] at hc1
   have hij : i = j := by omega
   subst hij
   refine wp_exit ?_
   refine e_then (e_then (e_blk (?_)))
   refine n_then ?_
   refine wp_seq ?_
   refine wp_seq ?_
   refine rg ?_
   refine st (mvI rfl) ?_
   refine st (asI rfl) ?_
   refine rg_end ?_
   refine n_then ?_
   refine wp_block ?_
   refine lp (γ := Int × List Int) [13, 55, 56, 57, 58, 59, 60, 61, 62, 63, 64, 65, 66, 67, 68, 69, 70, 71, 72, 73, 74, 75, 76] (fun ⟨k, cur⟩ => [(13, .int .i64 k)]) (fun ⟨k, cur⟩ w_ => Out (blk ad) (hi1 ad) w1 w_ ∧ a ≤ k ∧ k ≤ i - 1 ∧ ShL l cur a k ∧ Ow 3 encI 1 zl zh w_ ad cD  cur) (fun ⟨k, cur⟩ => (i - k).toNat) (a, l) ⟨rfl, trivial⟩ ⟨Out.refl _ _ _, by omega, by omega, ShL.start, hD⟩ ?_
   rintro ⟨k, cur⟩ hav_ w15 ⟨ho16, hk, hki_, hsh_, hD⟩
   have hlp1 := ho16
   have hz17 := ho16.size
   replace hJ := hJ.out ho16 (by first | omega | (simp only [blk_some, hi1_some] at *; omega))
   replace hE := hE.step ho16 (by first | omega | (simp only [blk_some, hi1_some] at *; omega))
   refine wp_seq ?_
   refine wp_seq ?_
   refine rg ?_
   refine st (mvI rfl) ?_
   refine st (mvI rfl) ?_
   refine st (y_sub rfl rfl (by omega)) ?_
   refine st (y_lss rfl rfl) ?_
   refine rg_end ?_
   refine n_then ?_
   refine cnd rfl (fun hc3 => ?_) (fun hc3 => ?_)
   ·
    try simp only [nm] at hc3
    have hcl : cur.length = nD := by have := hsh_.len; omega
    have hsh1 := hsh_.step ha (by omega) (by omega)
    refine wp_skip ?_
    refine n_then ?_
    refine wp_seq ?_
    refine wp_block ?_
    have hsh := (Ow.sl hD).shape
    refine rgP 16 (fun w_ => Out (blk ad) (hi1 ad) w15 w_) (fun i => Nat.beq i 9 || Nat.beq i 13 || Nat.beq i 15) (.step 0 (.step 1 (.step 2 (.step 3 (.step 4 (.step 5 (.step 6 (.step 7 (.step 8 (.step 10 (.step 11 (.step 12 (.fork 9 (.step 13 (.step 14 (.step 15 (.done)))) (.fork 13 (.step 9 (.step 14 (.step 15 (.done)))) (.last))))))))))))))) mixed (by kernel_rfl) ?_
    intro w18 ho19 hs20
    refine ⟨ho19.wide (.inl (Nat.le_refl _)), ?_⟩
    have hx21 := ho19.wide (a' := (blk ad)) (b' := (hi1 ad)) (.inl (Nat.le_refl _))
    replace hD := hD.ext ho19
    refine p_step rfl ?_
    refine tn rfl (fun _ hG => mvS rfl) ?_
    refine t_end ?_
    refine p_step rfl ?_
    refine tn rfl (fun _ hG => mvI rfl) ?_
    refine t_end ?_
    refine p_step rfl ?_
    refine tn rfl (fun _ hG => mvS rfl) ?_
    refine t_end ?_
    refine p_step rfl ?_
    refine tn rfl (fun _ hG => mvI rfl) ?_
    refine t_end ?_
    refine p_step rfl ?_
    refine tn rfl (fun _ hG => y_add rfl rfl (by omega)) ?_
    refine t_end ?_
    refine p_step rfl ?_
    refine tn rfl (fun _ hG => mvS rfl) ?_
    refine t_end ?_
    refine p_step rfl ?_
    refine tn rfl (fun _ hG => mvI rfl) ?_
    refine t_end ?_
    refine p_step rfl ?_
    refine tn rfl (fun _ hG => y_add rfl rfl (by omega)) ?_
    refine t_end ?_
    refine p_step rfl ?_
    refine tn rfl (fun _ hG => y_ix (hsh _) sl22 rfl (by simp; omega) rfl (by omega) (by simp; omega)) ?_
    refine t_end ?_
    refine p_step rfl ?_
    refine tn rfl (fun _ hG => mvS rfl) ?_
    refine t_end ?_
    refine p_step rfl ?_
    refine tn rfl (fun _ hG => mvI rfl) ?_
    refine t_end ?_
    refine p_step rfl ?_
    refine tn rfl (fun _ hG => y_ix (hsh _) sl22 rfl (by simp; omega) rfl (by omega) (by simp; omega)) ?_
    refine t_end ?_
    refine p_fork ?_ ?_
    ·
     refine p_step rfl ?_
     refine td rfl (d_y (y_le hD.sl na3 rfl (by omega) (by omega) rfl) ?_)
     refine ⟨hx21, ?_⟩
     refine t_end ?_
     refine p_step rfl ?_
     refine td rfl (d_y (y_le hD.sl na3 rfl (by omega) (by omega) rfl) ?_)
     refine ⟨hx21, ?_⟩
     refine t_end ?_
     refine p_step rfl ?_
     refine tn rfl (fun _ hG => y_ix (hsh _) sl22 rfl (by simp; omega) rfl (by omega) (by simp; omega)) ?_
     refine t_end ?_
     refine p_step rfl ?_
     refine td0 rfl (d_se (j := 0) (e' := (el cur (k + 1))) hD sz3 rfl rfl rfl (by omega) (by omega) (Nat.le_of_ble_eq_true rfl) rfl ?_)
     intro w22 hs24 ho23 hD'
     have hrhD := hD.rng
     clear hD; have hD := hD'; clear hD'
     have hx25 : Out (blk ad) (hi1 ad) w15 w22 := hx21.step ho23 (by first | omega | (simp only [blk_some, hi1_some] at *; omega))
     have hz26 := ho23.size
     refine ⟨hx25, ?_⟩
     refine t_end ?_
     refine p_done ?_
     have hz27 := hx25.size
     replace hJ := hJ.out hx25 (by first | omega | (simp only [blk_some, hi1_some] at *; omega))
     replace hE := hE.step hx25 (by first | omega | (simp only [blk_some, hi1_some] at *; omega))
     replace hlp1 := hlp1.step hx25 (by first | omega | (simp only [blk_some, hi1_some] at *; omega))
     refine st (y_ix hD.sl sl22 rfl (by simp; omega) rfl (by omega) (by simp; omega)) ?_
     refine sd0 (d_se (j := 0) (e' := (el cur k)) hD sz3 rfl rfl rfl (by omega) (by simp; omega) (Nat.le_of_ble_eq_true rfl) rfl ?_)
     intro w28 hs30 ho29 hD'
     have hrhD := hD.rng
     clear hD; have hD := hD'; clear hD'
     have hz31 := ho29.size
     replace hJ := hJ.out ho29 (by first | omega | (simp only [blk_some, hi1_some] at *; omega))
     replace hE := hE.step ho29 (by first | omega | (simp only [blk_some, hi1_some] at *; omega))
     replace hlp1 := hlp1.step ho29 (by first | omega | (simp only [blk_some, hi1_some] at *; omega))
     refine rg_end ?_
     refine n_blk ?_
     refine n_then ?_
     refine rg ?_
     refine st (mvI rfl) ?_
     refine st (y_add rfl rfl (by omega)) ?_
     refine st (asI rfl) ?_
     refine rg_end ?_
     exact n_then ⟨(k + 1, _), _, rfl, same_lk rfl (same_h0), ⟨rfl, trivial⟩, ⟨hlp1, by omega, by omega, hsh1, hD⟩, by first | omega | (dsimp only; omega)⟩
    refine p_fork ?_ ?_
    ·
     refine p_step rfl ?_
     refine td rfl (d_y (y_le hD.sl na3 rfl (by omega) (by omega) rfl) ?_)
     refine ⟨hx21, ?_⟩
     refine t_end ?_
     refine p_step rfl ?_
     refine td rfl (d_y (y_le hD.sl na3 rfl (by omega) (by omega) rfl) ?_)
     refine ⟨hx21, ?_⟩
     refine t_end ?_
     refine p_step rfl ?_
     refine tn rfl (fun _ hG => y_ix (hsh _) sl22 rfl (by simp; omega) rfl (by omega) (by simp; omega)) ?_
     refine t_end ?_
     refine p_step rfl ?_
     refine td0 rfl (d_se (j := 0) (e' := (el cur (k + 1))) hD sz3 rfl rfl rfl (by omega) (by omega) (Nat.le_of_ble_eq_true rfl) rfl ?_)
     intro w32 hs34 ho33 hD'
     have hrhD := hD.rng
     clear hD; have hD := hD'; clear hD'
     have hx35 : Out (blk ad) (hi1 ad) w15 w32 := hx21.step ho33 (by first | omega | (simp only [blk_some, hi1_some] at *; omega))
     have hz36 := ho33.size
     refine ⟨hx35, ?_⟩
     refine t_end ?_
     refine p_done ?_
     have hz37 := hx35.size
     replace hJ := hJ.out hx35 (by first | omega | (simp only [blk_some, hi1_some] at *; omega))
     replace hE := hE.step hx35 (by first | omega | (simp only [blk_some, hi1_some] at *; omega))
     replace hlp1 := hlp1.step hx35 (by first | omega | (simp only [blk_some, hi1_some] at *; omega))
     refine st (y_ix hD.sl sl22 rfl (by simp; omega) rfl (by omega) (by simp; omega)) ?_
     refine sd0 (d_se (j := 0) (e' := (el cur k)) hD sz3 rfl rfl rfl (by omega) (by simp; omega) (Nat.le_of_ble_eq_true rfl) rfl ?_)
     intro w38 hs40 ho39 hD'
     have hrhD := hD.rng
     clear hD; have hD := hD'; clear hD'
     have hz41 := ho39.size
     replace hJ := hJ.out ho39 (by first | omega | (simp only [blk_some, hi1_some] at *; omega))
     replace hE := hE.step ho39 (by first | omega | (simp only [blk_some, hi1_some] at *; omega))
     replace hlp1 := hlp1.step ho39 (by first | omega | (simp only [blk_some, hi1_some] at *; omega))
     refine rg_end ?_
     refine n_blk ?_
     refine n_then ?_
     refine rg ?_
     refine st (mvI rfl) ?_
     refine st (y_add rfl rfl (by omega)) ?_
     refine st (asI rfl) ?_
     refine rg_end ?_
     exact n_then ⟨(k + 1, _), _, rfl, same_lk rfl (same_h0), ⟨rfl, trivial⟩, ⟨hlp1, by omega, by omega, hsh1, hD⟩, by first | omega | (dsimp only; omega)⟩
    exact p_last
   ·
    try simp only [nm] at hc3
    have hki : k = i - 1 := by omega
    subst hki
    obtain ⟨hres1, hres2⟩ := hsh_.done ha (by omega) (by omega) (by omega) hR hlo hhi
    refine wp_exit ?_
    refine e_then (e_then (e_blk (?_)))
    refine n_then ?_
    refine wp_ret ?_
    refine r_then (ret0 Try.results75 ?_)
    exact ⟨_, rfl, hres1, hres2, hD, hE⟩
 ·
  try simp only [nm] at hc0
  refine wp_skip ?_
  refine n_then ?_
  refine wp_seq ?_
  refine wp_seq ?_
  refine rg ?_
  refine st (mvI rfl) ?_
  refine st (mvI rfl) ?_
  refine st (y_sub rfl rfl (by omega)) ?_
  refine st (y_eql rfl rfl) ?_
  refine rg_end ?_
  refine n_then ?_
  refine cnd rfl (fun hc4 => ?_) (fun hc4 => ?_)
  ·
   try simp only [nm] at hc4
   have hmb1 : b = m + 1 := by omega
   subst hmb1
   refine wp_seq ?_
   refine rg ?_
   refine st (mvI rfl) ?_
   refine st (asI rfl) ?_
   refine rg_end ?_
   refine n_then ?_
   refine wp_seq ?_
   refine rg ?_
   refine st (mvI rfl) ?_
   refine st (asI rfl) ?_
   refine rg_end ?_
   refine n_then ?_
   refine wp_seq ?_
   refine wp_block ?_
   refine lp (γ := Int × Int) [14, 15, 16, 83, 84, 85, 86, 87, 88, 89, 90, 91, 92, 93, 94, 95, 96, 97, 98, 99, 100, 101, 102, 103, 104, 105, 106] (fun ⟨i, j⟩ => [(14, .int .i64 i), (15, .int .i64 j)]) (fun ⟨i, j⟩ w_ => Ext w w_ ∧ a ≤ i ∧ i ≤ j ∧ j ≤ m ∧ (∀ k : Int, a ≤ k → k < i → ltW wd (el l k) (el l m)) ∧ (∀ k : Int, j ≤ k → k < m → ltW wd (el l m) (el l k))) (fun ⟨i, j⟩ => (j - i).toNat) (a, m) ⟨rfl, rfl, trivial⟩ ⟨Out.refl _ _ _, by omega, by omega, by omega, (fun k k0 k1 => by omega), (fun k k0 k1 => by omega)⟩ ?_
   rintro ⟨i, j⟩ hav_ w42 ⟨ho43, hi0, hij, hjb, hlo, hhi⟩
   have hlp2 := ho43
   have hz44 := ho43.size
   replace hD := hD.ext ho43
   replace hJ := hJ.ext ho43
   replace hE := hE.step ho43 (.inl (Nat.le_refl _))
   refine wp_seq ?_
   refine wp_seq ?_
   refine rg ?_
   refine st (mvI rfl) ?_
   refine st (mvI rfl) ?_
   refine st (y_lss rfl rfl) ?_
   refine rg_end ?_
   refine n_then ?_
   refine cnd rfl (fun hc5 => ?_) (fun hc5 => ?_)
   ·
    try simp only [nm] at hc5
    refine wp_skip ?_
    refine n_then ?_
    refine wp_block ?_
    refine wp_seq ?_
    refine rg ?_
    refine st (mvI rfl) ?_
    refine st (mvI rfl) ?_
    refine st (y_add rfl rfl (by omega)) ?_
    refine st (y_conv rfl rfl Try.underlying57) ?_
    refine st (y_shr rfl rfl (by omega)) ?_
    refine st (y_conv rfl rfl Try.underlying3) ?_
    rw [half_eq (x := i + j) (by omega) (by omega)]
    refine st (asI rfl) ?_
    refine rg_end ?_
    refine n_then ?_
    refine wp_seq ?_
    refine rgD 9 (fun w_ => Ext w42 w_) (fun i => false) mixed (by kernel_rfl) ?_
    intro w45 ho46 hs47
    refine ⟨ho46, ?_⟩
    have hx48 := ho46
    have hvc := hval
    refine tn rfl (fun _ hG => mvF rfl) ?_
    refine tn rfl (fun _ hG => mvS rfl) ?_
    refine tn rfl (fun _ hG => mvI rfl) ?_
    refine tn rfl (fun _ hG => y_ix (hD.ext hG).sl sl22 rfl (hln.symm) rfl (by omega) (by omega)) ?_
    refine tn rfl (fun _ hG => y_le (hD.ext hG).sl na3 rfl (by omega) (by omega) rfl) ?_
    refine tn rfl (fun _ hG => mvS rfl) ?_
    refine tn rfl (fun _ hG => mvI rfl) ?_
    refine tn rfl (fun _ hG => y_ix (hD.ext hG).sl sl22 rfl (hln.symm) rfl (by omega) (by omega)) ?_
    refine tn rfl (fun _ hG => y_le (hD.ext hG).sl na3 rfl (by omega) (by omega) rfl) ?_
    refine t_end ?_
    have hz49 := hx48.size
    replace hD := hD.ext hx48
    replace hJ := hJ.ext hx48
    replace hE := hE.step hx48 (.inl (Nat.le_refl _))
    replace hlp2 := hlp2.step hx48 (.inl (Nat.le_refl _))
    refine scv hkc rfl (hcmp (el l m) (el l ((i + j) / 2)) _ (hvc _ (by omega) (by omega)) (hvc _ (by omega) (by omega)) hJ.it) rfl ?_
    rintro v54 w50 ⟨rfl, ho51⟩
    have hz55 := ho51.size
    replace hD := hD.ext ho51
    replace hJ := hJ.ext ho51
    replace hE := hE.step ho51 (.inl (Nat.le_refl _))
    replace hlp2 := hlp2.step ho51 (.inl (Nat.le_refl _))
    refine st (y_lss rfl rfl) ?_
    refine st (y_not rfl) ?_
    refine rg_end ?_
    refine n_then ?_
    refine cnd rfl (fun hc6 => ?_) (fun hc6 => ?_)
    ·
     try simp only [nm] at hc6
     have hq1 : ltW wd (el l ((i + j) / 2)) (el l m) := ltW.not (by omega) (hlr _ _ (by omega) (by omega) (by omega) (by omega))
     have hlo1 : ∀ k : Int, a ≤ k → k < (i + j) / 2 + 1 → ltW wd (el l k) (el l m) := fun k k0 k1 => hL.le k0 (by omega) (by omega) hq1
     refine rg ?_
     refine st (mvI rfl) ?_
     refine st (y_add rfl rfl (by omega)) ?_
     refine st (asI rfl) ?_
     refine rg_end ?_
     refine n_blk ?_
     exact n_then ⟨(_, _), _, rfl, same_lk rfl (same_h0), ⟨rfl, rfl, trivial⟩, ⟨hlp2, by omega, by omega, by omega, by first | exact hlo1 | exact hlo, by first | exact hhi1 | exact hhi⟩, by first | omega | (dsimp only; omega)⟩
    ·
     try simp only [nm] at hc6
     have hq1 : ltW wd (el l m) (el l ((i + j) / 2)) := ltW.of (by omega)
     have hhi1 : ∀ k : Int, (i + j) / 2 ≤ k → k < m → ltW wd (el l m) (el l k) := fun k k0 k1 => hL.ge (by omega) k0 k1 hq1
     refine rg ?_
     refine st (mvI rfl) ?_
     refine st (asI rfl) ?_
     refine rg_end ?_
     refine n_blk ?_
     exact n_then ⟨(_, _), _, rfl, same_lk rfl (same_h0), ⟨rfl, rfl, trivial⟩, ⟨hlp2, by omega, by omega, by omega, by first | exact hlo1 | exact hlo, by first | exact hhi1 | exact hhi⟩, by first | omega | (dsimp only; omega)⟩
   ·
    try simp only [nm] at hc5
    have hij : i = j := by omega
    subst hij
    refine wp_exit ?_
    refine e_then (e_then (e_blk (?_)))
    refine n_then ?_
    refine wp_seq ?_
    refine wp_seq ?_
    refine rg ?_
    refine st (mvI rfl) ?_
    refine st (asI rfl) ?_
    refine rg_end ?_
    refine n_then ?_
    refine wp_block ?_
    refine lp (γ := Int × List Int) [17, 108, 109, 110, 111, 112, 113, 114, 115, 116, 117, 118, 119, 120, 121, 122, 123, 124, 125, 126, 127, 128] (fun ⟨k, cur⟩ => [(17, .int .i64 k)]) (fun ⟨k, cur⟩ w_ => Out (blk ad) (hi1 ad) w42 w_ ∧ i ≤ k ∧ k ≤ m ∧ ShR l cur m k ∧ Ow 3 encI 1 zl zh w_ ad cD  cur) (fun ⟨k, cur⟩ => (k - i).toNat) (m, l) ⟨rfl, trivial⟩ ⟨Out.refl _ _ _, by omega, by omega, ShR.start, hD⟩ ?_
    rintro ⟨k, cur⟩ hav_ w56 ⟨ho57, hk, hkm, hsh_, hD⟩
    have hlp3 := ho57
    have hz58 := ho57.size
    replace hJ := hJ.out ho57 (by first | omega | (simp only [blk_some, hi1_some] at *; omega))
    replace hE := hE.step ho57 (by first | omega | (simp only [blk_some, hi1_some] at *; omega))
    refine wp_seq ?_
    refine wp_seq ?_
    refine rg ?_
    refine st (mvI rfl) ?_
    refine st (mvI rfl) ?_
    refine st (y_gtr rfl rfl) ?_
    refine rg_end ?_
    refine n_then ?_
    refine cnd rfl (fun hc7 => ?_) (fun hc7 => ?_)
    ·
     try simp only [nm] at hc7
     have hcl : cur.length = nD := by have := hsh_.len; omega
     have hsh1 := hsh_.step (by omega) (by omega) (by omega)
     refine wp_skip ?_
     refine n_then ?_
     refine wp_seq ?_
     refine wp_block ?_
     have hsh := (Ow.sl hD).shape
     refine rgP 16 (fun w_ => Out (blk ad) (hi1 ad) w56 w_) (fun i => Nat.beq i 9 || Nat.beq i 13 || Nat.beq i 15) (.step 0 (.step 1 (.step 2 (.step 3 (.step 4 (.step 5 (.step 6 (.step 7 (.step 8 (.step 10 (.step 11 (.step 12 (.fork 9 (.step 13 (.step 14 (.step 15 (.done)))) (.fork 13 (.step 9 (.step 14 (.step 15 (.done)))) (.last))))))))))))))) mixed (by kernel_rfl) ?_
     intro w59 ho60 hs61
     refine ⟨ho60.wide (.inl (Nat.le_refl _)), ?_⟩
     have hx62 := ho60.wide (a' := (blk ad)) (b' := (hi1 ad)) (.inl (Nat.le_refl _))
     replace hD := hD.ext ho60
     refine p_step rfl ?_
     refine tn rfl (fun _ hG => mvS rfl) ?_
     refine t_end ?_
     refine p_step rfl ?_
     refine tn rfl (fun _ hG => mvI rfl) ?_
     refine t_end ?_
     refine p_step rfl ?_
     refine tn rfl (fun _ hG => mvS rfl) ?_
     refine t_end ?_
     refine p_step rfl ?_
     refine tn rfl (fun _ hG => mvI rfl) ?_
     refine t_end ?_
     refine p_step rfl ?_
     refine tn rfl (fun _ hG => y_sub rfl rfl (by omega)) ?_
     refine t_end ?_
     refine p_step rfl ?_
     refine tn rfl (fun _ hG => mvS rfl) ?_
     refine t_end ?_
     refine p_step rfl ?_
     refine tn rfl (fun _ hG => mvI rfl) ?_
     refine t_end ?_
     refine p_step rfl ?_
     refine tn rfl (fun _ hG => y_sub rfl rfl (by omega)) ?_
     refine t_end ?_
     refine p_step rfl ?_
     refine tn rfl (fun _ hG => y_ix (hsh _) sl22 rfl (by simp; omega) rfl (by omega) (by simp; omega)) ?_
     refine t_end ?_
     refine p_step rfl ?_
     refine tn rfl (fun _ hG => mvS rfl) ?_
     refine t_end ?_
     refine p_step rfl ?_
     refine tn rfl (fun _ hG => mvI rfl) ?_
     refine t_end ?_
     refine p_step rfl ?_
     refine tn rfl (fun _ hG => y_ix (hsh _) sl22 rfl (by simp; omega) rfl (by omega) (by simp; omega)) ?_
     refine t_end ?_
     refine p_fork ?_ ?_
     ·
      refine p_step rfl ?_
      refine td rfl (d_y (y_le hD.sl na3 rfl (by omega) (by omega) rfl) ?_)
      refine ⟨hx62, ?_⟩
      refine t_end ?_
      refine p_step rfl ?_
      refine td rfl (d_y (y_le hD.sl na3 rfl (by omega) (by omega) rfl) ?_)
      refine ⟨hx62, ?_⟩
      refine t_end ?_
      refine p_step rfl ?_
      refine tn rfl (fun _ hG => y_ix (hsh _) sl22 rfl (by simp; omega) rfl (by omega) (by simp; omega)) ?_
      refine t_end ?_
      refine p_step rfl ?_
      refine td0 rfl (d_se (j := 0) (e' := (el cur (k - 1))) hD sz3 rfl rfl rfl (by omega) (by omega) (Nat.le_of_ble_eq_true rfl) rfl ?_)
      intro w63 hs65 ho64 hD'
      have hrhD := hD.rng
      clear hD; have hD := hD'; clear hD'
      have hx66 : Out (blk ad) (hi1 ad) w56 w63 := hx62.step ho64 (by first | omega | (simp only [blk_some, hi1_some] at *; omega))
      have hz67 := ho64.size
      refine ⟨hx66, ?_⟩
      refine t_end ?_
      refine p_done ?_
      have hz68 := hx66.size
      replace hJ := hJ.out hx66 (by first | omega | (simp only [blk_some, hi1_some] at *; omega))
      replace hE := hE.step hx66 (by first | omega | (simp only [blk_some, hi1_some] at *; omega))
      replace hlp3 := hlp3.step hx66 (by first | omega | (simp only [blk_some, hi1_some] at *; omega))
      refine st (y_ix hD.sl sl22 rfl (by simp; omega) rfl (by omega) (by simp; omega)) ?_
      refine sd0 (d_se (j := 0) (e' := (el cur k)) hD sz3 rfl rfl rfl (by omega) (by simp; omega) (Nat.le_of_ble_eq_true rfl) rfl ?_)
      intro w69 hs71 ho70 hD'
      have hrhD := hD.rng
      clear hD; have hD := hD'; clear hD'
      have hz72 := ho70.size
      replace hJ := hJ.out ho70 (by first | omega | (simp only [blk_some, hi1_some] at *; omega))
      replace hE := hE.step ho70 (by first | omega | (simp only [blk_some, hi1_some] at *; omega))
      replace hlp3 := hlp3.step ho70 (by first | omega | (simp only [blk_some, hi1_some] at *; omega))
      refine rg_end ?_
      refine n_blk ?_
      refine n_then ?_
      refine rg ?_
      refine st (mvI rfl) ?_
      refine st (y_sub rfl rfl (by omega)) ?_
      refine st (asI rfl) ?_
      refine rg_end ?_
      exact n_then ⟨(k - 1, _), _, rfl, same_lk rfl (same_h0), ⟨rfl, trivial⟩, ⟨hlp3, by omega, by omega, hsh1, hD⟩, by first | omega | (dsimp only; omega)⟩
     refine p_fork ?_ ?_
     ·
      refine p_step rfl ?_
      refine td rfl (d_y (y_le hD.sl na3 rfl (by omega) (by omega) rfl) ?_)
      refine ⟨hx62, ?_⟩
      refine t_end ?_
      refine p_step rfl ?_
      refine td rfl (d_y (y_le hD.sl na3 rfl (by omega) (by omega) rfl) ?_)
      refine ⟨hx62, ?_⟩
      refine t_end ?_
      refine p_step rfl ?_
      refine tn rfl (fun _ hG => y_ix (hsh _) sl22 rfl (by simp; omega) rfl (by omega) (by simp; omega)) ?_
      refine t_end ?_
      refine p_step rfl ?_
      refine td0 rfl (d_se (j := 0) (e' := (el cur (k - 1))) hD sz3 rfl rfl rfl (by omega) (by omega) (Nat.le_of_ble_eq_true rfl) rfl ?_)
      intro w73 hs75 ho74 hD'
      have hrhD := hD.rng
      clear hD; have hD := hD'; clear hD'
      have hx76 : Out (blk ad) (hi1 ad) w56 w73 := hx62.step ho74 (by first | omega | (simp only [blk_some, hi1_some] at *; omega))
      have hz77 := ho74.size
      refine ⟨hx76, ?_⟩
      refine t_end ?_
      refine p_done ?_
      have hz78 := hx76.size
      replace hJ := hJ.out hx76 (by first | omega | (simp only [blk_some, hi1_some] at *; omega))
      replace hE := hE.step hx76 (by first | omega | (simp only [blk_some, hi1_some] at *; omega))
      replace hlp3 := hlp3.step hx76 (by first | omega | (simp only [blk_some, hi1_some] at *; omega))
      refine st (y_ix hD.sl sl22 rfl (by simp; omega) rfl (by omega) (by simp; omega)) ?_
      refine sd0 (d_se (j := 0) (e' := (el cur k)) hD sz3 rfl rfl rfl (by omega) (by simp; omega) (Nat.le_of_ble_eq_true rfl) rfl ?_)
      intro w79 hs81 ho80 hD'
      have hrhD := hD.rng
      clear hD; have hD := hD'; clear hD'
      have hz82 := ho80.size
      replace hJ := hJ.out ho80 (by first | omega | (simp only [blk_some, hi1_some] at *; omega))
      replace hE := hE.step ho80 (by first | omega | (simp only [blk_some, hi1_some] at *; omega))
      replace hlp3 := hlp3.step ho80 (by first | omega | (simp only [blk_some, hi1_some] at *; omega))
      refine rg_end ?_
      refine n_blk ?_
      refine n_then ?_
      refine rg ?_
      refine st (mvI rfl) ?_
      refine st (y_sub rfl rfl (by omega)) ?_
      refine st (asI rfl) ?_
      refine rg_end ?_
      exact n_then ⟨(k - 1, _), _, rfl, same_lk rfl (same_h0), ⟨rfl, trivial⟩, ⟨hlp3, by omega, by omega, hsh1, hD⟩, by first | omega | (dsimp only; omega)⟩
     exact p_last
    ·
     try simp only [nm] at hc7
     have hki : i = k := by omega
     subst hki
     obtain ⟨hres1, hres2⟩ := hsh_.done ha (by omega) (by omega) (by omega) hL hlo hhi
     refine wp_exit ?_
     refine e_then (e_then (e_blk (?_)))
     refine n_then ?_
     refine wp_ret ?_
     refine r_then (ret0 Try.results75 ?_)
     exact ⟨_, rfl, hres1, hres2, hD, hE⟩
  ·
   try simp only [nm] at hc4
   refine wp_skip ?_
   refine n_then ?_
   refine wp_seq ?_
   refine rg ?_
   refine st (mvI rfl) ?_
   refine st (mvI rfl) ?_
   refine st (y_add rfl rfl (by omega)) ?_
   refine st (y_conv rfl rfl Try.underlying57) ?_
   refine st (y_shr rfl rfl (by omega)) ?_
   refine st (y_conv rfl rfl Try.underlying3) ?_
   rw [half_eq (x := a + b) (by omega) (by omega)]
   obtain ⟨mid, hmid⟩ : ∃ z, z = (a + b) / 2 := ⟨_, rfl⟩
   rw [← hmid]
   refine st (asI rfl) ?_
   refine rg_end ?_
   refine n_then ?_
   refine wp_seq ?_
   refine rg ?_
   refine st (mvI rfl) ?_
   refine st (mvI rfl) ?_
   refine st (y_add rfl rfl (by omega)) ?_
   refine st (asI rfl) ?_
   refine rg_end ?_
   refine n_then ?_
   refine wp_seq ?_
   refine rg ?_
   refine st (asI rfl) ?_
   refine st (asI rfl) ?_
   refine rg_end ?_
   refine n_then ?_
   refine cut (γ := Int × Int) [20, 21, 138, 139, 140, 141, 142, 143, 144, 145, 146] (fun ⟨s0, r0⟩ => [(20, .int .i64 s0), (21, .int .i64 r0)]) (fun ⟨s0, r0⟩ w_ => Ext w w_ ∧ ((mid < m ∧ s0 = mid + m - b ∧ r0 = mid) ∨ (m ≤ mid ∧ s0 = a ∧ r0 = m))) ?_ ?_
   ·
    have hcut := Out.refl 0 0 w
    refine wp_seq ?_
    refine rg ?_
    refine st (mvI rfl) ?_
    refine st (mvI rfl) ?_
    refine st (y_gtr rfl rfl) ?_
    refine rg_end ?_
    refine n_then ?_
    refine cnd rfl (fun hc8 => ?_) (fun hc8 => ?_)
    ·
     try simp only [nm] at hc8
     refine wp_seq ?_
     refine rg ?_
     refine st (mvI rfl) ?_
     refine st (mvI rfl) ?_
     refine st (y_sub rfl rfl (by omega)) ?_
     refine st (asI rfl) ?_
     refine rg_end ?_
     refine n_then ?_
     refine rg ?_
     refine st (mvI rfl) ?_
     refine st (asI rfl) ?_
     refine rg_end ?_
     exact n_then ⟨(_, _), _, rfl, same_lk rfl (same_rfl), ⟨rfl, rfl, trivial⟩, ⟨hcut, by omega⟩⟩
    ·
     try simp only [nm] at hc8
     refine wp_seq ?_
     refine rg ?_
     refine st (mvI rfl) ?_
     refine st (asI rfl) ?_
     refine rg_end ?_
     refine n_then ?_
     refine rg ?_
     refine st (mvI rfl) ?_
     refine st (asI rfl) ?_
     refine rg_end ?_
     exact n_then ⟨(_, _), _, rfl, same_lk rfl (same_rfl), ⟨rfl, rfl, trivial⟩, ⟨hcut, by omega⟩⟩
   ·
    rintro ⟨s0, r0⟩ hav_ w83 ⟨ho84, hs0⟩
    have hz85 := ho84.size
    replace hD := hD.ext ho84
    replace hJ := hJ.ext ho84
    replace hE := hE.step ho84 (.inl (Nat.le_refl _))
    have hcx := cut_rng ham hmb hmid hs0
    refine wp_seq ?_
    refine rg ?_
    refine st (mvI rfl) ?_
    refine st (y_sub rfl rfl (by omega)) ?_
    refine st (asI rfl) ?_
    refine rg_end ?_
    refine n_then ?_
    refine wp_seq ?_
    refine wp_block ?_
    refine lp (γ := Int × Int) [20, 21, 23, 149, 150, 151, 152, 153, 154, 155, 156, 157, 158, 159, 160, 161, 162, 163, 164, 165, 166, 167, 168, 169, 170, 171, 172, 173, 174] (fun ⟨s, r⟩ => [(20, .int .i64 s), (21, .int .i64 r)]) (fun ⟨s, r⟩ w_ => Ext w83 w_ ∧ CutI wd l (mid + m) s0 r0 s r) (fun ⟨s, r⟩ => (r - s).toNat) (s0, r0) ⟨rfl, rfl, trivial⟩ ⟨Out.refl _ _ _, ⟨⟨Int.le_refl _, by omega, Int.le_refl _⟩, fun c c0 c1 => by omega, fun c c0 c1 => by omega⟩⟩ ?_
    rintro ⟨s, r⟩ hav_ w86 ⟨ho87, hcu⟩
    have hlp4 := ho87
    have hz88 := ho87.size
    replace hD := hD.ext ho87
    replace hJ := hJ.ext ho87
    replace hE := hE.step ho87 (.inl (Nat.le_refl _))
    refine wp_seq ?_
    refine wp_seq ?_
    refine rg ?_
    refine st (mvI rfl) ?_
    refine st (mvI rfl) ?_
    refine st (y_lss rfl rfl) ?_
    refine rg_end ?_
    refine n_then ?_
    refine cnd rfl (fun hc9 => ?_) (fun hc9 => ?_)
    ·
     try simp only [nm] at hc9
     have hxr := hcx ((s + r) / 2) (by have := hcu.rng; omega) (by have := hcu.rng; omega)
     refine wp_skip ?_
     refine n_then ?_
     refine wp_block ?_
     refine wp_seq ?_
     refine rg ?_
     refine st (mvI rfl) ?_
     refine st (mvI rfl) ?_
     refine st (y_add rfl rfl (by omega)) ?_
     refine st (y_conv rfl rfl Try.underlying57) ?_
     refine st (y_shr rfl rfl (by omega)) ?_
     refine st (y_conv rfl rfl Try.underlying3) ?_
     rw [half_eq (x := s + r) (by omega) (by omega)]
     refine st (asI rfl) ?_
     refine rg_end ?_
     refine n_then ?_
     refine wp_seq ?_
     refine rgD 11 (fun w_ => Ext w86 w_) (fun i => false) mixed (by kernel_rfl) ?_
     intro w89 ho90 hs91
     refine ⟨ho90, ?_⟩
     have hx92 := ho90
     have hvc := hval
     refine tn rfl (fun _ hG => mvF rfl) ?_
     refine tn rfl (fun _ hG => mvS rfl) ?_
     refine tn rfl (fun _ hG => mvI rfl) ?_
     refine tn rfl (fun _ hG => mvI rfl) ?_
     refine tn rfl (fun _ hG => y_sub rfl rfl (by omega)) ?_
     refine tn rfl (fun _ hG => y_ix (hD.ext hG).sl sl22 rfl (hln.symm) rfl (by omega) (by omega)) ?_
     refine tn rfl (fun _ hG => y_le (hD.ext hG).sl na3 rfl (by omega) (by omega) rfl) ?_
     refine tn rfl (fun _ hG => mvS rfl) ?_
     refine tn rfl (fun _ hG => mvI rfl) ?_
     refine tn rfl (fun _ hG => y_ix (hD.ext hG).sl sl22 rfl (hln.symm) rfl (by omega) (by omega)) ?_
     refine tn rfl (fun _ hG => y_le (hD.ext hG).sl na3 rfl (by omega) (by omega) rfl) ?_
     refine t_end ?_
     have hz93 := hx92.size
     replace hD := hD.ext hx92
     replace hJ := hJ.ext hx92
     replace hE := hE.step hx92 (.inl (Nat.le_refl _))
     replace hlp4 := hlp4.step hx92 (.inl (Nat.le_refl _))
     refine scv hkc rfl (hcmp (el l (mid + m - 1 - (s + r) / 2)) (el l ((s + r) / 2)) _ (hvc _ (by omega) (by omega)) (hvc _ (by omega) (by omega)) hJ.it) rfl ?_
     rintro v98 w94 ⟨rfl, ho95⟩
     have hz99 := ho95.size
     replace hD := hD.ext ho95
     replace hJ := hJ.ext ho95
     replace hE := hE.step ho95 (.inl (Nat.le_refl _))
     replace hlp4 := hlp4.step ho95 (.inl (Nat.le_refl _))
     refine st (y_lss rfl rfl) ?_
     refine st (y_not rfl) ?_
     refine rg_end ?_
     refine n_then ?_
     refine cnd rfl (fun hc10 => ?_) (fun hc10 => ?_)
     ·
      try simp only [nm] at hc10
      have hcu1 := cut_up hcu hL hR hcx (c := (s + r) / 2) (by omega) (by omega) (ltW.not (by omega) (hlr _ _ (by omega) (by omega) (by omega) (by omega)))
      refine rg ?_
      refine st (mvI rfl) ?_
      refine st (y_add rfl rfl (by omega)) ?_
      refine st (asI rfl) ?_
      refine rg_end ?_
      refine n_blk ?_
      exact n_then ⟨(_, _), _, rfl, same_lk rfl (same_h0), ⟨rfl, rfl, trivial⟩, ⟨hlp4, hcu1⟩, by first | omega | (dsimp only; omega)⟩
     ·
      try simp only [nm] at hc10
      have hcu1 := cut_down hcu hL hR hcx (c := (s + r) / 2) (by omega) (by omega) (ltW.of (by omega))
      refine rg ?_
      refine st (mvI rfl) ?_
      refine st (asI rfl) ?_
      refine rg_end ?_
      refine n_blk ?_
      exact n_then ⟨(_, _), _, rfl, same_lk rfl (same_h0), ⟨rfl, rfl, trivial⟩, ⟨hlp4, hcu1⟩, by first | omega | (dsimp only; omega)⟩
    ·
     try simp only [nm] at hc9
     have hsr_ : s = r := by have := hcu.rng; omega
     subst hsr_
     refine wp_exit ?_
     refine e_then (e_then (e_blk (?_)))
     refine n_then ?_
     refine wp_seq ?_
     refine rg ?_
     have hcr := hcu.rng
     refine st (mvI rfl) ?_
     refine st (mvI rfl) ?_
     refine st (y_sub rfl rfl (by omega)) ?_
     refine st (asI rfl) ?_
     refine rg_end ?_
     refine n_then ?_
     refine cut (γ := List Int) [178, 179, 180, 181, 182, 183, 184, 185, 186, 187, 188, 189, 190, 191] (fun l1 => []) (fun l1 w_ => Out (blk ad) (hi1 ad) w86 w_ ∧ l1.length = l.length ∧ (∀ k : Int, 0 ≤ k → k < l.length → el l1 k = rotF l s m (mid + m - s) k) ∧ Ow 3 encI 1 zl zh w_ ad cD  l1) ?_ ?_
     ·
      have hcut := Out.refl (blk ad) (hi1 ad) w86
      refine wp_seq ?_
      refine rg ?_
      refine st (mvI rfl) ?_
      refine st (mvI rfl) ?_
      refine st (y_lss rfl rfl) ?_
      refine st (mvB rfl) ?_
      refine gspL 181 rfl (fun hg100 => ?_) (fun hg100 => ?_)
      ·
       have hg100n := hg100; try simp only [nm] at hg100n
       refine stg rfl rfl hg100 (mvI rfl) ?_
       refine stg rfl rfl hg100 (mvI rfl) ?_
       refine stg rfl rfl hg100 (y_lss rfl rfl) ?_
       refine st (y_pickT rfl hg100 (v := .bool _) rfl) ?_
       refine rg_end ?_
       refine n_then ?_
       refine cnd rfl (fun hc11 => ?_) (fun hc11 => ?_)
       ·
        try simp only [nm] at hc11
        refine rg ?_
        refine st (mvS rfl) ?_
        refine st (mvI rfl) ?_
        refine st (mvI rfl) ?_
        refine st (mvI rfl) ?_
        refine st (mvF rfl) ?_
        refine sc cl87 (rotate_ok ad nD cD zl zh l s m (mid + m - s) _ _ _ _ hD hln hn8 (by omega) (by omega) (by omega) (by omega)) rfl ?_
        rintro v105 w101 ⟨l1, rfl, hrot, hD1, ho102⟩
        clear hD
        have hD := hD1
        clear hD1
        have hrl := hrot.1
        have hrk := hrot.2
        have hz106 := ho102.size
        replace hJ := hJ.out ho102 (by first | omega | (simp only [blk_some, hi1_some] at *; omega))
        replace hE := hE.step ho102 (by first | omega | (simp only [blk_some, hi1_some] at *; omega))
        replace hcut := hcut.step ho102 (by first | omega | (simp only [blk_some, hi1_some] at *; omega))
        refine rg_end ?_
        exact n_then ⟨_, _, rfl, same_lk rfl (same_rfl), trivial, ⟨hcut, hrl, hrk, hD⟩⟩
       ·
        try simp only [nm] at hc11
        have hrl : l.length = l.length := rfl
        have hrk := rot_none (l := l) (s := s) (m := m) (e := mid + m - s) (by omega)
        refine wp_skip ?_
        exact n_then ⟨_, _, rfl, same_lk rfl (same_rfl), trivial, ⟨hcut, hrl, hrk, hD⟩⟩
      ·
       have hg100n := hg100; try simp only [nm] at hg100n
       refine sts rfl rfl hg100 ?_
       refine sts rfl rfl hg100 ?_
       refine sts rfl rfl hg100 ?_
       refine st (y_pickF rfl hg100 (v := .bool _) rfl) ?_
       refine rg_end ?_
       refine n_then ?_
       refine cnd rfl (fun hc11 => absurd hc11 (by decide)) (fun hc11 => ?_)
       have hrl : l.length = l.length := rfl
       have hrk := rot_none (l := l) (s := s) (m := m) (e := mid + m - s) (by omega)
       refine wp_skip ?_
       exact n_then ⟨_, _, rfl, same_lk rfl (same_rfl), trivial, ⟨hcut, hrl, hrk, hD⟩⟩
     ·
      rintro l1 hav_ w107 ⟨ho108, hrl, hrk, hD⟩
      have hz109 := ho108.size
      replace hJ := hJ.out ho108 (by first | omega | (simp only [blk_some, hi1_some] at *; omega))
      replace hE := hE.step ho108 (by first | omega | (simp only [blk_some, hi1_some] at *; omega))
      obtain ⟨⟨x1, x2, x3, x4, x5, x6⟩, sr1, sr2, sr3, sr4, lr1, lr2, hx1, hf1⟩ := merge_cut ha ham hmb (by omega) hmid rfl hs0 hcu rfl hL hR hlr hrl hrk
      have hv1 := hval.frm hf1 hln ha hb
      refine cut (γ := List Int) [192, 193, 194, 195, 196, 197, 198, 199, 200, 201, 202, 203, 204, 205] (fun l2 => []) (fun l2 w_ => Out (blk ad) (hi1 ad) w107 w_ ∧ SrtR wd l2 a mid ∧ Frm l1 l2 a mid ∧ Ow 3 encI 1 zl zh w_ ad cD  l2) ?_ ?_
      ·
       have hcut := Out.refl (blk ad) (hi1 ad) w107
       refine wp_seq ?_
       refine rg ?_
       refine st (mvI rfl) ?_
       refine st (mvI rfl) ?_
       refine st (y_lss rfl rfl) ?_
       refine st (mvB rfl) ?_
       refine gspL 195 rfl (fun hg110 => ?_) (fun hg110 => ?_)
       ·
        have hg110n := hg110; try simp only [nm] at hg110n
        refine stg rfl rfl hg110 (mvI rfl) ?_
        refine stg rfl rfl hg110 (mvI rfl) ?_
        refine stg rfl rfl hg110 (y_lss rfl rfl) ?_
        refine st (y_pickT rfl hg110 (v := .bool _) rfl) ?_
        refine rg_end ?_
        refine n_then ?_
        refine cnd rfl (fun hc12 => ?_) (fun hc12 => ?_)
        ·
         try simp only [nm] at hc12
         refine rg ?_
         refine st (mvS rfl) ?_
         refine st (mvI rfl) ?_
         refine st (mvI rfl) ?_
         refine st (mvI rfl) ?_
         refine st (mvF rfl) ?_
         refine sc cl75 (ih l1 a s mid _ (by omega) hD (by omega) ha (by omega) (by omega) (by omega) sr1 sr2 lr1 hv1 hJ) rfl ?_
         rintro v115 w111 ⟨l2, rfl, hs12, hfr2, hD1, ho112⟩
         clear hD
         have hD := hD1
         clear hD1
         have hz116 := ho112.size
         replace hJ := hJ.out ho112 (by first | omega | (simp only [blk_some, hi1_some] at *; omega))
         replace hE := hE.step ho112 (by first | omega | (simp only [blk_some, hi1_some] at *; omega))
         replace hcut := hcut.step ho112 (by first | omega | (simp only [blk_some, hi1_some] at *; omega))
         refine rg_end ?_
         exact n_then ⟨_, _, rfl, same_lk rfl (same_rfl), trivial, ⟨hcut, hs12, hfr2, hD⟩⟩
        ·
         try simp only [nm] at hc12
         have hs12 : SrtR wd l1 a mid := by
           have hc : a = s ∨ s = mid := by omega
           rcases hc with q | q
           · rw [q]; exact sr2
           · rw [← q]; exact sr1
         have hfr2 := Frm.refl l1 a mid
         refine wp_skip ?_
         exact n_then ⟨_, _, rfl, same_lk rfl (same_rfl), trivial, ⟨hcut, hs12, hfr2, hD⟩⟩
       ·
        have hg110n := hg110; try simp only [nm] at hg110n
        refine sts rfl rfl hg110 ?_
        refine sts rfl rfl hg110 ?_
        refine sts rfl rfl hg110 ?_
        refine st (y_pickF rfl hg110 (v := .bool _) rfl) ?_
        refine rg_end ?_
        refine n_then ?_
        refine cnd rfl (fun hc12 => absurd hc12 (by decide)) (fun hc12 => ?_)
        have hs12 : SrtR wd l1 a mid := by
          have hc : a = s ∨ s = mid := by omega
          rcases hc with q | q
          · rw [q]; exact sr2
          · rw [← q]; exact sr1
        have hfr2 := Frm.refl l1 a mid
        refine wp_skip ?_
        exact n_then ⟨_, _, rfl, same_lk rfl (same_rfl), trivial, ⟨hcut, hs12, hfr2, hD⟩⟩
      ·
       rintro l2 hav_ w117 ⟨ho118, hs12, hfr2, hD⟩
       have hz119 := ho118.size
       replace hJ := hJ.out ho118 (by first | omega | (simp only [blk_some, hi1_some] at *; omega))
       replace hE := hE.step ho118 (by first | omega | (simp only [blk_some, hi1_some] at *; omega))
       have hv2 := hv1.frm hfr2 (by omega) ha (by omega)
       have sr3' := hfr2.srt sr3 (by omega) (by omega) (.inr (Int.le_refl _))
       have sr4' := hfr2.srt sr4 (by omega) (by omega) (.inr x3)
       have lr2' : LRn l2 mid (mid + m - s) b := fun p q p0 p1 q0 q1 => by
         rw [hfr2.out p (by omega) (by omega) (.inr p0), hfr2.out q (by omega) (by omega) (.inr (by omega))]
         exact lr2 p q p0 p1 q0 q1
       refine wp_seq ?_
       refine rg ?_
       refine st (mvI rfl) ?_
       refine st (mvI rfl) ?_
       refine st (y_lss rfl rfl) ?_
       refine st (mvB rfl) ?_
       refine gspL 209 rfl (fun hg120 => ?_) (fun hg120 => ?_)
       ·
        have hg120n := hg120; try simp only [nm] at hg120n
        refine stg rfl rfl hg120 (mvI rfl) ?_
        refine stg rfl rfl hg120 (mvI rfl) ?_
        refine stg rfl rfl hg120 (y_lss rfl rfl) ?_
        refine st (y_pickT rfl hg120 (v := .bool _) rfl) ?_
        refine rg_end ?_
        refine n_then ?_
        refine cnd rfl (fun hc13 => ?_) (fun hc13 => ?_)
        ·
         try simp only [nm] at hc13
         refine rg ?_
         refine st (mvS rfl) ?_
         refine st (mvI rfl) ?_
         refine st (mvI rfl) ?_
         refine st (mvI rfl) ?_
         refine st (mvF rfl) ?_
         refine sc cl75 (ih l2 mid (mid + m - s) b _ (by omega) hD (by have := hfr2.len; omega) (by omega) (by omega) (by omega) (by omega) sr3' sr4' lr2' hv2 hJ) rfl ?_
         rintro v125 w121 ⟨l3, rfl, hs13, hfr3, hD1, ho122⟩
         clear hD
         have hD := hD1
         clear hD1
         have hfin := merge_end ha (by omega) (by omega) (by omega) hf1 hx1 hfr2 hs12 hfr3 hs13
         have hz126 := ho122.size
         replace hJ := hJ.out ho122 (by first | omega | (simp only [blk_some, hi1_some] at *; omega))
         replace hE := hE.step ho122 (by first | omega | (simp only [blk_some, hi1_some] at *; omega))
         refine rg_end ?_
         refine end0 Try.results75 ?_
         exact ⟨_, rfl, hfin.1, hfin.2, hD, hE⟩
        ·
         try simp only [nm] at hc13
         have hs13 : SrtR wd l2 mid b := by
           have hc : mid = mid + m - s ∨ mid + m - s = b := by omega
           rcases hc with q | q
           · rw [q]; exact sr4'
           · rw [← q]; exact sr3'
         have hfin := merge_end ha (by omega) (by omega) (by omega) hf1 hx1 hfr2 hs12 (Frm.refl l2 mid b) hs13
         refine wp_skip ?_
         refine end0 Try.results75 ?_
         exact ⟨_, rfl, hfin.1, hfin.2, hD, hE⟩
       ·
        have hg120n := hg120; try simp only [nm] at hg120n
        refine sts rfl rfl hg120 ?_
        refine sts rfl rfl hg120 ?_
        refine sts rfl rfl hg120 ?_
        refine st (y_pickF rfl hg120 (v := .bool _) rfl) ?_
        refine rg_end ?_
        refine n_then ?_
        refine cnd rfl (fun hc13 => absurd hc13 (by decide)) (fun hc13 => ?_)
        have hs13 : SrtR wd l2 mid b := by
          have hc : mid = mid + m - s ∨ mid + m - s = b := by omega
          rcases hc with q | q
          · rw [q]; exact sr4'
          · rw [← q]; exact sr3'
        have hfin := merge_end ha (by omega) (by omega) (by omega) hf1 hx1 hfr2 hs12 (Frm.refl l2 mid b) hs13
        refine wp_skip ?_
        refine end0 Try.results75 ?_
        exact ⟨_, rfl, hfin.1, hfin.2, hD, hE⟩

theorem symMerge_ok (ad : Option Addr) (nD cD zl zh : Nat)  (wd : Int → Int) (mx : Int) (kc : Nat) (lb : List Value) (J : World → Prop)  (hn8 : nD ≤ 1048576) (hkc : Callable Try.prog kc) (hcmp : ∀ (x y : Int) (w1 : World), (0 ≤ x ∧ x < mx) → (0 ≤ y ∧ y < mx) → J w1 → Cal Try.prog kc ([.int .i64 x, .int .i64 y] ++ lb) w1 (fun v w2 => v = .int .i64 (wd x - wd y) ∧ Ext w1 w2)) :
    ∀ (t : Nat) (l : List Int) (a m b : Int) (w : World), (b - a).toNat ≤ t → Ow 3 encI 1 zl zh w ad cD l → l.length = nD → 0 ≤ a → a < m → m < b → b ≤ nD → SrtR wd l a m → SrtR wd l m b → LRn l a m b → ValR mx nD l → CjI ad J w → Cal Try.prog 75 [.slice ad nD cD, .int .i64 a, .int .i64 m, .int .i64 b, .func (.func kc) #[] lb.toArray] w (fun v w' => ∃ l', v = .tuple #[] ∧ SrtR wd l' a b ∧ Frm l l' a b ∧ Ow 3 encI 1 zl zh w' ad cD l' ∧ Out (blk ad) (hi1 ad) w w')
  | 0, l, a, m, b, w, ht, hD, hl, ha, ham, hmb, hb, hL, hR, hlr, hv, hJ => by omega
  | t + 1, l, a, m, b, w, ht, hD, hl, ha, ham, hmb, hb, hL, hR, hlr, hv, hJ =>
    symMerge0_ok ad nD cD zl zh wd mx kc lb J l a m b w hD hl hn8 ha ham hmb hb hL hR hlr hv hkc hJ hcmp (fun l' a' m' b' w' hlt hD' hl' ha' ham' hmb' hb' hL' hR' hlr' hv' hJ' =>
      symMerge_ok ad nD cD zl zh wd mx kc lb J hn8 hkc hcmp t l' a' m' b' w' (by omega) hD' hl' ha' ham' hmb' hb' hL' hR' hlr' hv' hJ')
end Go.Proofs.Ytdgkaahghlbocaa
