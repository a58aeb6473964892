/-
  Walks of the functions, printed by a program out of the code and the loops' relations.
-/
import Derived.Test.YtgekfafangcggaaWkD
import Derived.Test.YtgekfafangcggaaProg
import Derived.KernelRfl
import Derived.Test.YtgekfafangcggaaB2
namespace Go.Proofs.Ytgekfafangcggaa
open Go.Wk Go.RowKit
set_option linter.unusedVariables false
set_option linter.unusedSimpArgs false
theorem cl12 : Callable Try.prog 12 := ⟨Try.call12⟩

theorem slack_net {N : Net} (h : SmallNet N) : SmallNet ⟨N.p, N.evs, N.acts.map (slackW N.p)⟩ := by
  obtain ⟨hok, h2, h9, h1, h5, h8, hmn⟩ := h
  have hm : ∀ a ∈ N.acts.map (slackW N.p), ∃ b ∈ N.acts, a = slackW N.p b := fun a ha => by
    obtain ⟨b, hb, e⟩ := List.mem_map.1 ha; exact ⟨b, hb, e.symm⟩
  have hd : 0 ≤ N.p.tdiv 2 := Int.tdiv_nonneg (by omega) (by decide)
  refine ⟨⟨hok.p2, hok.p7, hok.ev, by simpa using hok.ac, fun a ha => ?_⟩, h2, h9, h1, h5, by simpa using h8, fun a ha => ?_⟩
  · obtain ⟨b, hb, rfl⟩ := hm a ha
    have ok := hok.acs b hb
    have := hmn b hb
    have m1 := ok.m1
    refine ⟨ok.f0, ok.f1, ok.t0, ok.t1, ok.ne, ok.m0, ?_, ?_, ?_, ok.w0, ok.w1⟩
    · simp only [slackW]; omega
    · simp only [slackW]; omega
    · simp only [slackW]; omega
  · obtain ⟨b, hb, rfl⟩ := hm a ha; exact hmn b hb

/-- Ascending numbers above 'last' and below 'm'. -/
def ascB (m : Int) : Int → List Int → Bool
  | _, [] => true
  | last, a :: r => decide (last < a ∧ a < m) && ascB m a r
theorem asc_rng {m : Int} : ∀ (l : List Int) (last : Int), ascB m last l = true → ∀ a ∈ l, last < a ∧ a < m
  | [], _, _, a, ha => by cases ha
  | b :: r, last, h, a, ha => by
    simp only [ascB, Bool.and_eq_true, decide_eq_true_eq] at h
    rcases List.mem_cons.1 ha with rfl | ha
    · exact h.1
    · have := asc_rng r b h.2 a ha; omega
theorem asc_len {m : Int} : ∀ (l : List Int) (last : Int), ascB m last l = true → last < m → (l.length : Int) ≤ m - last - 1
  | [], last, _, h => by simp; omega
  | b :: r, last, h, hl => by
    simp only [ascB, Bool.and_eq_true, decide_eq_true_eq] at h
    have := asc_len r b h.2 h.1.2
    simp only [List.length_cons]; omega
theorem asc_snoc {m : Int} : ∀ (l : List Int) (last : Int), ascB m last l = true → last < m → ascB (m + 1) last (l ++ [m]) = true
  | [], last, _, h => by simp [ascB]; omega
  | b :: r, last, h, hl => by
    simp only [ascB, Bool.and_eq_true, decide_eq_true_eq] at h
    rw [List.cons_append, ascB, asc_snoc r b h.2 h.1.2]
    simp; omega
theorem asc_mono {m m' : Int} (hm : m ≤ m') : ∀ (l : List Int) (last : Int), ascB m last l = true → ascB m' last l = true
  | [], last, _ => rfl
  | b :: r, last, h => by
    simp only [ascB, Bool.and_eq_true, decide_eq_true_eq] at h
    rw [ascB, asc_mono hm r b h.2]
    simp; omega
theorem dropE {α : Type} [Inhabited α] {l : List α} {k : Nat} (hk : (k : Int) < l.length) : l.drop k = el l (k : Int) :: l.drop (k + 1) := by
  have hk' : k < l.length := by omega
  have : el l (k : Int) = l[k] := by simp [el, hk']
  rw [List.drop_eq_getElem_cons hk', this]
theorem takeE {α : Type} [Inhabited α] {l : List α} {k : Nat} (hk : (k : Int) < l.length) : l.take (k + 1) = l.take k ++ [el l (k : Int)] := by
  have hk' : k < l.length := by omega
  have : el l (k : Int) = l[k] := by simp [el, hk']
  rw [List.take_succ_eq_append_getElem hk', this]
theorem elMap {α β : Type} [Inhabited α] [Inhabited β] {l : List α} {g : α → β} {i : Int} (h0 : 0 ≤ i) (h1 : i < l.length) : el (l.map g) i = g (el l i) := by
  have h : i.toNat < l.length := by omega
  simp [el, List.getD_eq_getElem?_getD, h]

def subN (N : Net) (s : List Int) : Net := ⟨N.p, N.evs, s.map (el N.acts)⟩
def subE (N : Net) (s : List Int) : Int := if netOk N = true then (if ascB N.acts.length (-1) s = true then 0 else 4) else 1
def subM (N : Net) (s : List Int) : Net := if subE N s = 0 then subN N s else ⟨0, [], []⟩
theorem subE1 {N : Net} {s : List Int} (h : netOk N = false) : subE N s = 1 ∧ subM N s = ⟨0, [], []⟩ := by
  have e : subE N s = 1 := by unfold subE; rw [if_neg (by rw [h]; decide)]
  exact ⟨e, by unfold subM; rw [if_neg (by rw [e]; decide)]⟩
theorem subE4 {N : Net} {s : List Int} (h : netOk N = true) (h2 : ascB N.acts.length (-1) s = false) : subE N s = 4 ∧ subM N s = ⟨0, [], []⟩ := by
  have e : subE N s = 4 := by unfold subE; rw [if_pos h, if_neg (by rw [h2]; decide)]
  exact ⟨e, by unfold subM; rw [if_neg (by rw [e]; decide)]⟩
theorem subE0 {N : Net} {s : List Int} (h : netOk N = true) (h2 : ascB N.acts.length (-1) s = true) : subE N s = 0 ∧ subM N s = subN N s := by
  have e : subE N s = 0 := by unfold subE; rw [if_pos h, if_pos h2]
  exact ⟨e, by unfold subM; rw [if_pos e]⟩
theorem sub_ok {N : Net} {s : List Int} (h : NetOk N) (hs : ∀ a ∈ s, 0 ≤ a ∧ a < N.acts.length) (hl : (s.length : Int) ≤ 512) : NetOk (subN N s) := by
  refine ⟨h.p2, h.p7, h.ev, by simpa [subN] using hl, fun a ha => ?_⟩
  obtain ⟨i, hi, rfl⟩ := List.mem_map.1 ha
  exact (h.acs _ (el_mem (hs i hi).1 (hs i hi).2)).re rfl rfl
theorem sub_feas {N : Net} {s t : List Int} (hs : ∀ a ∈ s, 0 ≤ a ∧ a < N.acts.length) (hl : (s.length : Int) ≤ 512) (h : feas N t = true) : feas (subN N s) t = true := by
  simp only [feas, Bool.and_eq_true, List.all_eq_true, decide_eq_true_eq] at h ⊢
  have hg := goodT_iff.1 h.1
  refine ⟨goodT_iff.2 ⟨sub_ok hg.ok hs hl, hg.len, hg.rng⟩, fun a ha => ?_⟩
  obtain ⟨i, hi, rfl⟩ := List.mem_map.1 ha
  exact h.2 _ (el_mem (hs i hi).1 (hs i hi).2)
theorem u64_nn (v : Int) : 0 ≤ IntKind.u64.wrap v := by
  have e1 : IntKind.u64.wrap v = v % 18446744073709551616 := by simp [IntKind.wrap, IntKind.signed, IntKind.bits]
  rw [e1]; exact Int.emod_nonneg _ (by decide)

set_option maxHeartbeats 1000000 in
set_option maxRecDepth 100000 in
theorem keep_Slack_ok (al : Option Addr) (cl : Nat) (l : List Int) (ll hl : Nat) (w : World) (hL : Ints ll hl w al l) (hn : (l.length : Int) ≤ 9223372036854775807) : Cal Try.prog 32 [.slice al l.length cl] w (fun v w' => ∃ N A, v = netV N A ∧ SmallNet N ∧ NetIn w.heap.size w'.heap.size w' N A ∧ Ext w w') := by
  replace hL := Ints.full hL
  have hE : Out 0 0 w w := Out.refl _ _ w
  refine enter Try.func32 rfl Try.ntmps32 rfl ?_
  refine wp_seq ?_
  refine rg ?_
  refine sd (d_allocA zer26 ?_)
  intro b2 w1 hbb2 hs3 ho2 hb2
  have hz4 := ho2.size
  replace hL := hL.ext ho2
  replace hE := hE.step ho2 (.inl (Nat.le_refl _))
  refine rg_end ?_
  refine n_then ?_
  refine wp_seq ?_
  refine rg ?_
  refine st (mvS rfl) ?_
  refine sc cl12 (keep_Network_ok _ _ _ _ _ _ hL hn) rfl ?_
  rintro v9 w5 ⟨N, A, rfl, hsm, hev, hac, hdis, ho6⟩
  have hz10 := ho6.size
  replace hL := hL.ext ho6
  replace hE := hE.step ho6 (.inl (Nat.le_refl _))
  replace hb2 := hb2.ext ho6
  refine sd (d_allocA zer26 ?_)
  intro b3 w11 hbb3 hs13 ho12 hb3
  have hz14 := ho12.size
  replace hL := hL.ext ho12
  replace hE := hE.step ho12 (.inl (Nat.le_refl _))
  replace hb2 := hb2.ext ho12
  replace hev := hev.ext ho12
  replace hac := hac.ext ho12
  refine sd0 (d_stN hb3 rfl rfl sz26 rfl rfl ?_)
  intro w15 hs17 ho16 hb3'
  clear hb3; have hb3 := hb3'; clear hb3'
  have hz18 := ho16.size
  replace hL := hL.out ho16 (by first | omega | (simp only [blk_some, hi1_some] at *; omega))
  replace hE := hE.step ho16 (by first | omega | (simp only [blk_some, hi1_some] at *; omega))
  replace hb2 := hb2.out ho16 (by first | omega | (simp only [blk_some, hi1_some] at *; omega))
  have hrnhev := hev.rng
  replace hev := hev.out ho16 (by first | omega | (simp only [blk_some, hi1_some] at *; omega))
  have hrnhac := hac.rng
  replace hac := hac.out ho16 (by first | omega | (simp only [blk_some, hi1_some] at *; omega))
  refine rg_end ?_
  refine n_then ?_
  refine wp_seq ?_
  refine wp_seq ?_
  refine rg ?_
  refine st (y_fld fld26_2 rfl) ?_
  refine st (y_lb hb3 na24 rfl rfl) ?_
  refine st (y_len Try.underlying24 rfl) ?_
  refine st (mvI rfl) ?_
  refine rg_end ?_
  refine n_then ?_
  refine wp_block ?_
  have hac0 := hac.rng
  have hev0 := hev.rng
  obtain ⟨z0, hz0⟩ : ∃ z, z = w15.heap.size := ⟨_, rfl⟩
  have hal : N.acts.length ≤ 8 := hsm.2.2.2.2.2.1
  refine lp (γ := Nat) [4, 5, 11, 12, 13, 14, 15, 16, 17, 18, 19, 20, 21, 22, 23, 24, 25, 26, 27, 28, 29, 30, 31, 32, 33, 34, 35, 36, 37, 38] (fun k => [(11, .int .i64 (k : Int))]) (fun k w_ => Out (blk A.aa) (hi1 A.aa) w15 w_ ∧ (k : Int) ≤ N.acts.length ∧ Ow 36 encAc 6 w.heap.size z0 w_ A.aa A.ca (((N.acts.take k).map (slackW N.p)) ++ N.acts.drop k)) (fun k => N.acts.length - k) 0 ⟨rfl, trivial⟩ ⟨Out.refl _ _ _, by omega, by have h2 := (hac.lower (lo' := w.heap.size) (by omega)).wide (hi' := z0) (by omega); simpa using h2⟩ ?_
  rintro k hav_ w19 ⟨ho20, hk, hac⟩
  have hlp0 := ho20
  have hz21 := ho20.size
  replace hL := hL.out ho20 (by first | omega | (simp only [blk_some, hi1_some] at *; omega))
  replace hE := hE.step ho20 (by first | omega | (simp only [blk_some, hi1_some] at *; omega))
  replace hb2 := hb2.out ho20 (by first | omega | (simp only [blk_some, hi1_some] at *; omega))
  replace hev := hev.out ho20 (by first | omega | (simp only [blk_some, hi1_some] at *; omega))
  replace hb3 := hb3.out ho20 (by first | omega | (simp only [blk_some, hi1_some] at *; omega))
  refine wp_seq ?_
  refine rg ?_
  refine st (y_lss rfl rfl) ?_
  refine rg_end ?_
  refine n_then ?_
  refine wp_seq ?_
  refine cnd rfl (fun hc0 => ?_) (fun hc0 => ?_)
  ·
    try simp only [decide_eq_true_eq, decide_eq_false_iff_not, Bool.not_eq_true', Bool.not_eq_false', Bool.and_eq_true, Bool.or_eq_true, Bool.or_eq_false_iff, Bool.cond_true_right, Bool.cond_false_right, Bool.cond_true_left, Bool.cond_false_left, ne_eq, Decidable.not_not, bne_iff_ne, beq_iff_eq, beq_eq_false_iff_ne, Bool.not_true, Bool.not_false] at hc0
    have hwl := slack_len (p := N.p) (acts := N.acts) (k := k) (by omega)
    have hwe := slack_el (p := N.p) (acts := N.acts) (k := k) (by omega)
    have hmn := hsm.2.2.2.2.2.2 _ (el_mem (l := N.acts) (i := k) (by omega) hc0)
    obtain ⟨_, _, _, _, _, hm0, hm1, hm2, hm3, _, _⟩ := hsm.1.acs _ (el_mem (l := N.acts) (i := k) (by omega) hc0)
    have hp1 := hsm.2.1
    have hp2 := hsm.2.2.1
    have hd0 : 0 ≤ N.p.tdiv 2 := Int.tdiv_nonneg (by omega) (by decide)
    have hd1 : N.p.tdiv 2 ≤ N.p := Int.tdiv_le_self 2 (by omega)
    refine wp_skip ?_
    refine n_then ?_
    refine wp_seq ?_
    refine wp_block ?_
    refine wp_seq ?_
    refine rg ?_
    refine st (mvI rfl) ?_
    refine st (asI rfl) ?_
    refine rg_end ?_
    refine n_then ?_
    refine wp_seq ?_
    refine rg ?_
    refine st (y_fld fld26_2 rfl) ?_
    refine st (y_lb hb3 na24 rfl rfl) ?_
    refine st (mvI rfl) ?_
    refine st (y_ix hac.sl sl24 rfl (hwl.symm) rfl (by omega) (by rw [hwl]; omega)) ?_
    refine st (asP rfl) ?_
    refine rg_end ?_
    refine n_then ?_
    refine rgD 18 (fun w_ => Ext w19 w_) (fun i => false) mixed (by kernel_rfl) ?_
    intro w22 ho23 hs24
    refine ⟨ho23, ?_⟩
    have hx25 := ho23
    refine tn rfl (fun _ hG => mvP rfl) ?_
    refine tn rfl (fun _ hG => mvP rfl) ?_
    refine tn rfl (fun _ hG => y_nil rfl) ?_
    refine tn rfl (fun _ hG => y_fld fld36_4 rfl) ?_
    refine tn rfl (fun _ hG => y_lf (hac.ext hG).sl na3 rfl (by omega) (by rw [hwl]; omega) rfl) ?_
    refine tn rfl (fun _ hG => y_fld fld26_0 rfl) ?_
    refine tn rfl (fun _ hG => y_lb (hb3.ext hG) na3 rfl rfl) ?_
    refine tn rfl (fun _ hG => y_quo rfl rfl (by omega) (by omega)) ?_
    refine tn rfl (fun _ hG => y_add rfl rfl (by rw [hwe]; omega)) ?_
    refine tn rfl (fun _ hG => mvP rfl) ?_
    refine tn rfl (fun _ hG => y_nil rfl) ?_
    refine tn rfl (fun _ hG => y_fld fld36_3 rfl) ?_
    refine tn rfl (fun _ hG => y_lf (hac.ext hG).sl na3 rfl (by omega) (by rw [hwl]; omega) rfl) ?_
    refine tn rfl (fun _ hG => y_fld fld26_0 rfl) ?_
    refine tn rfl (fun _ hG => y_lb (hb3.ext hG) na3 rfl rfl) ?_
    refine tn rfl (fun _ hG => y_add rfl rfl (by rw [hwe]; omega)) ?_
    refine tn rfl (fun _ hG => y_sub rfl rfl (by rw [hwe]; omega)) ?_
    refine tn rfl (fun _ hG => y_min rfl rfl) ?_
    refine t_end ?_
    have hz26 := hx25.size
    replace hL := hL.ext hx25
    replace hE := hE.step hx25 (.inl (Nat.le_refl _))
    replace hb2 := hb2.ext hx25
    replace hev := hev.ext hx25
    replace hb3 := hb3.ext hx25
    replace hac := hac.ext hx25
    replace hlp0 := hlp0.step hx25 (.inl (Nat.le_refl _))
    refine st (y_nil rfl) ?_
    refine st (y_fld fld36_4 rfl) ?_
    refine sd0 (d_se (j := 4) (e' := slackW N.p (el N.acts (k : Int))) hac sz3 rfl rfl rfl (by omega) (by rw [hwl]; omega) (Nat.le_of_ble_eq_true rfl) (by rw [hwe]; rfl) ?_)
    intro w27 hs29 ho28 hac'
    have hrhac := hac.rng
    clear hac; have hac := hac'; clear hac'
    have hz30 := ho28.size
    replace hL := hL.out ho28 (by first | omega | (simp only [blk_some, hi1_some] at *; omega))
    replace hE := hE.step ho28 (by first | omega | (simp only [blk_some, hi1_some] at *; omega))
    replace hb2 := hb2.out ho28 (by first | omega | (simp only [blk_some, hi1_some] at *; omega))
    replace hev := hev.out ho28 (by first | omega | (simp only [blk_some, hi1_some] at *; omega))
    replace hb3 := hb3.out ho28 (by first | omega | (simp only [blk_some, hi1_some] at *; omega))
    replace hlp0 := hlp0.step ho28 (by first | omega | (simp only [blk_some, hi1_some] at *; omega))
    simp only [Int.toNat_natCast] at hac
    rw [slack_set (by omega)] at hac
    refine rg_end ?_
    refine n_blk ?_
    refine n_then ?_
    refine rg ?_
    refine st (y_add rfl rfl (by omega)) ?_
    refine st (mvI rfl) ?_
    refine rg_end ?_
    exact n_then ⟨k + 1, _, rfl, same_lk rfl (same_h0), ⟨rfl, trivial⟩, ⟨hlp0, by omega, hac⟩, by first | omega | (dsimp only; omega)⟩
  ·
    try simp only [decide_eq_true_eq, decide_eq_false_iff_not, Bool.not_eq_true', Bool.not_eq_false', Bool.and_eq_true, Bool.or_eq_true, Bool.or_eq_false_iff, Bool.cond_true_right, Bool.cond_false_right, Bool.cond_true_left, Bool.cond_false_left, ne_eq, Decidable.not_not, bne_iff_ne, beq_iff_eq, beq_eq_false_iff_ne, Bool.not_true, Bool.not_false] at hc0
    have hkn : k = N.acts.length := by omega
    subst hkn
    rw [List.take_of_length_le (Nat.le_refl _), List.drop_of_length_le (Nat.le_refl _), List.append_nil] at hac
    refine wp_exit ?_
    refine e_then (e_then (e_blk (?_)))
    refine n_then ?_
    refine wp_seq ?_
    refine rg ?_
    refine st (y_lbN hb3 agg26 rfl) ?_
    refine sd0 (d_stN hb2 rfl rfl sz26 rfl rfl ?_)
    intro w31 hs33 ho32 hb2'
    clear hb2; have hb2 := hb2'; clear hb2'
    have hz34 := ho32.size
    replace hL := hL.out ho32 (by first | omega | (simp only [blk_some, hi1_some] at *; omega))
    replace hE := hE.step ho32 (by first | omega | (simp only [blk_some, hi1_some] at *; omega))
    replace hev := hev.out ho32 (by first | omega | (simp only [blk_some, hi1_some] at *; omega))
    replace hb3 := hb3.out ho32 (by first | omega | (simp only [blk_some, hi1_some] at *; omega))
    have hrnhac := hac.rng
    replace hac := hac.out ho32 (by first | omega | (simp only [blk_some, hi1_some] at *; omega))
    refine rg_end ?_
    refine n_then ?_
    refine wp_ret ?_
    refine retC Try.results32 hb2 agg26 rfl ?_
    exact ⟨⟨N.p, N.evs, N.acts.map (slackW N.p)⟩, A, by simp [netV], slack_net hsm, ⟨(hev.sl).wide (by omega) (by omega), (hac.sl).wide (by omega) (by omega)⟩, hE⟩
end Go.Proofs.Ytgekfafangcggaa
