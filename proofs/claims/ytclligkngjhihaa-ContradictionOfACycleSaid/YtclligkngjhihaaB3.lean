/-
  Walks of the functions, printed by a program out of the code and the loops' relations.
-/
import Derived.Test.YtclligkngjhihaaWkE
import Derived.Test.YtclligkngjhihaaProg
import Derived.KernelRfl
import Derived.Test.YtclligkngjhihaaB2
namespace Go.Proofs.Ytclligkngjhihaa
open Go.Wk Go.RowKit
set_option linter.unusedVariables false
set_option linter.unusedSimpArgs false
theorem agg34 : AggOf Try.prog 34 3 := fun w => ⟨Try.isAgg34 w, Try.sizeOf34 w⟩
theorem bld26_  (w : World) : (Instr.build 26 [].toArray).run Try.prog w = .ok (.agg [.int .i64 0, .slice none 0 0, .slice none 0 0].toArray) w := by kernel_rfl
theorem bld26_0_1 (a0 : Int) (d1 : Option Addr) (l1 : Nat) (c1 : Nat) (w : World) : (Instr.build 26 [(0, (.int .i64 a0)), (1, (.slice d1 l1 c1))].toArray).run Try.prog w = .ok (.agg [(.int .i64 a0), (.slice d1 l1 c1), .slice none 0 0].toArray) w := by kernel_rfl
theorem cl18 : Callable Try.prog 18 := ⟨Try.call18⟩
theorem cl35 : Callable Try.prog 35 := ⟨Try.call35⟩
theorem cl36 : Callable Try.prog 36 := ⟨Try.call36⟩
theorem cl63 : Callable Try.prog 63 := ⟨Try.call63⟩

theorem slack_net {N : Net} (h : SmallNet N) : SmallNet ⟨N.p, N.evs, N.acts.map (slackW N.p)⟩ := by
  obtain ⟨hok, h2, h9, h1, h5, h8, hmn⟩ := h
  have hm : ∀ a ∈ N.acts.map (slackW N.p), ∃ b ∈ N.acts, a = slackW N.p b := fun a ha => by
    obtain ⟨b, hb, e⟩ := List.mem_map.1 ha; exact ⟨b, hb, e.symm⟩
  have hd : 0 ≤ N.p.tdiv 2 := Int.tdiv_nonneg (by omega) (by decide)
  refine ⟨⟨hok.p2, hok.p7, hok.ev, by simpa using hok.ac, fun a ha => ?_⟩, h2, h9, h1, h5, by simpa using h8, fun a ha => ?_⟩
  · obtain ⟨b, hb, rfl⟩ := hm a ha
    have ok := hok.acs b hb
    have := hmn b hb
    have m1 := ok.m1
    refine ⟨ok.f0, ok.f1, ok.t0, ok.t1, ok.ne, ok.m0, ?_, ?_, ?_, ok.w0, ok.w1⟩
    · simp only [slackW]; omega
    · simp only [slackW]; omega
    · simp only [slackW]; omega
  · obtain ⟨b, hb, rfl⟩ := hm a ha; exact hmn b hb

/-- Ascending numbers above 'last' and below 'm'. -/
def ascB (m : Int) : Int → List Int → Bool
  | _, [] => true
  | last, a :: r => decide (last < a ∧ a < m) && ascB m a r
theorem asc_rng {m : Int} : ∀ (l : List Int) (last : Int), ascB m last l = true → ∀ a ∈ l, last < a ∧ a < m
  | [], _, _, a, ha => by cases ha
  | b :: r, last, h, a, ha => by
    simp only [ascB, Bool.and_eq_true, decide_eq_true_eq] at h
    rcases List.mem_cons.1 ha with rfl | ha
    · exact h.1
    · have := asc_rng r b h.2 a ha; omega
theorem asc_len {m : Int} : ∀ (l : List Int) (last : Int), ascB m last l = true → last < m → (l.length : Int) ≤ m - last - 1
  | [], last, _, h => by simp; omega
  | b :: r, last, h, hl => by
    simp only [ascB, Bool.and_eq_true, decide_eq_true_eq] at h
    have := asc_len r b h.2 h.1.2
    simp only [List.length_cons]; omega
theorem asc_snoc {m : Int} : ∀ (l : List Int) (last : Int), ascB m last l = true → last < m → ascB (m + 1) last (l ++ [m]) = true
  | [], last, _, h => by simp [ascB]; omega
  | b :: r, last, h, hl => by
    simp only [ascB, Bool.and_eq_true, decide_eq_true_eq] at h
    rw [List.cons_append, ascB, asc_snoc r b h.2 h.1.2]
    simp; omega
theorem asc_mono {m m' : Int} (hm : m ≤ m') : ∀ (l : List Int) (last : Int), ascB m last l = true → ascB m' last l = true
  | [], last, _ => rfl
  | b :: r, last, h => by
    simp only [ascB, Bool.and_eq_true, decide_eq_true_eq] at h
    rw [ascB, asc_mono hm r b h.2]
    simp; omega
theorem dropE {α : Type} [Inhabited α] {l : List α} {k : Nat} (hk : (k : Int) < l.length) : l.drop k = el l (k : Int) :: l.drop (k + 1) := by
  have hk' : k < l.length := by omega
  have : el l (k : Int) = l[k] := by simp [el, hk']
  rw [List.drop_eq_getElem_cons hk', this]
theorem takeE {α : Type} [Inhabited α] {l : List α} {k : Nat} (hk : (k : Int) < l.length) : l.take (k + 1) = l.take k ++ [el l (k : Int)] := by
  have hk' : k < l.length := by omega
  have : el l (k : Int) = l[k] := by simp [el, hk']
  rw [List.take_succ_eq_append_getElem hk', this]
theorem elMap {α β : Type} [Inhabited α] [Inhabited β] {l : List α} {g : α → β} {i : Int} (h0 : 0 ≤ i) (h1 : i < l.length) : el (l.map g) i = g (el l i) := by
  have h : i.toNat < l.length := by omega
  simp [el, List.getD_eq_getElem?_getD, h]

def subN (N : Net) (s : List Int) : Net := ⟨N.p, N.evs, s.map (el N.acts)⟩
def subE (N : Net) (s : List Int) : Int := if netOk N = true then (if ascB N.acts.length (-1) s = true then 0 else 4) else 1
def subM (N : Net) (s : List Int) : Net := if subE N s = 0 then subN N s else ⟨0, [], []⟩
theorem subE1 {N : Net} {s : List Int} (h : netOk N = false) : subE N s = 1 ∧ subM N s = ⟨0, [], []⟩ := by
  have e : subE N s = 1 := by unfold subE; rw [if_neg (by rw [h]; decide)]
  exact ⟨e, by unfold subM; rw [if_neg (by rw [e]; decide)]⟩
theorem subE4 {N : Net} {s : List Int} (h : netOk N = true) (h2 : ascB N.acts.length (-1) s = false) : subE N s = 4 ∧ subM N s = ⟨0, [], []⟩ := by
  have e : subE N s = 4 := by unfold subE; rw [if_pos h, if_neg (by rw [h2]; decide)]
  exact ⟨e, by unfold subM; rw [if_neg (by rw [e]; decide)]⟩
theorem subE0 {N : Net} {s : List Int} (h : netOk N = true) (h2 : ascB N.acts.length (-1) s = true) : subE N s = 0 ∧ subM N s = subN N s := by
  have e : subE N s = 0 := by unfold subE; rw [if_pos h, if_pos h2]
  exact ⟨e, by unfold subM; rw [if_pos e]⟩
theorem sub_ok {N : Net} {s : List Int} (h : NetOk N) (hs : ∀ a ∈ s, 0 ≤ a ∧ a < N.acts.length) (hl : (s.length : Int) ≤ 512) : NetOk (subN N s) := by
  refine ⟨h.p2, h.p7, h.ev, by simpa [subN] using hl, fun a ha => ?_⟩
  obtain ⟨i, hi, rfl⟩ := List.mem_map.1 ha
  exact (h.acs _ (el_mem (hs i hi).1 (hs i hi).2)).re rfl rfl
theorem sub_feas {N : Net} {s t : List Int} (hs : ∀ a ∈ s, 0 ≤ a ∧ a < N.acts.length) (hl : (s.length : Int) ≤ 512) (h : feas N t = true) : feas (subN N s) t = true := by
  simp only [feas, Bool.and_eq_true, List.all_eq_true, decide_eq_true_eq] at h ⊢
  have hg := goodT_iff.1 h.1
  refine ⟨goodT_iff.2 ⟨sub_ok hg.ok hs hl, hg.len, hg.rng⟩, fun a ha => ?_⟩
  obtain ⟨i, hi, rfl⟩ := List.mem_map.1 ha
  exact h.2 _ (el_mem (hs i hi).1 (hs i hi).2)
theorem u64_nn (v : Int) : 0 ≤ IntKind.u64.wrap v := by
  have e1 : IntKind.u64.wrap v = v % 18446744073709551616 := by simp [IntKind.wrap, IntKind.signed, IntKind.bits]
  rw [e1]; exact Int.emod_nonneg _ (by decide)

set_option maxHeartbeats 1000000 in
set_option maxRecDepth 100000 in
theorem keep_Slack_ok (al : Option Addr) (cl : Nat) (l : List Int) (ll hl : Nat) (w : World) (hL : Ints ll hl w al l) (hn : (l.length : Int) ≤ 9223372036854775807) : Cal Try.prog 12 [.slice al l.length cl] w (fun v w' => ∃ N A, v = netV N A ∧ SmallNet N ∧ NetIn w.heap.size w'.heap.size w' N A ∧ Ext w w') := by
 replace hL := Ints.full hL
 have hE : Out 0 0 w w := Out.refl _ _ w
 refine enter Try.func12 rfl Try.ntmps12 rfl ?_
 refine wp_seq ?_
 refine rg ?_
 refine sd (d_allocA zer26 ?_)
 intro b2 w1 hbb2 hs3 ho2 hb2
 have hz4 := ho2.size
 replace hL := hL.ext ho2
 replace hE := hE.step ho2 (.inl (Nat.le_refl _))
 refine rg_end ?_
 refine n_then ?_
 refine wp_seq ?_
 refine rg ?_
 refine st (mvS rfl) ?_
 refine sc cl18 (keep_Network_ok _ _ _ _ _ _ hL hn) rfl ?_
 rintro v9 w5 ⟨N, A, rfl, hsm, hev, hac, hdis, ho6⟩
 have hz10 := ho6.size
 replace hL := hL.ext ho6
 replace hE := hE.step ho6 (.inl (Nat.le_refl _))
 replace hb2 := hb2.ext ho6
 refine sd (d_allocA zer26 ?_)
 intro b3 w11 hbb3 hs13 ho12 hb3
 have hz14 := ho12.size
 replace hL := hL.ext ho12
 replace hE := hE.step ho12 (.inl (Nat.le_refl _))
 replace hb2 := hb2.ext ho12
 replace hev := hev.ext ho12
 replace hac := hac.ext ho12
 refine sd0 (d_stN hb3 rfl rfl sz26 rfl rfl ?_)
 intro w15 hs17 ho16 hb3'
 clear hb3; have hb3 := hb3'; clear hb3'
 have hz18 := ho16.size
 replace hL := hL.out ho16 (by first | omega | (simp only [blk_some, hi1_some] at *; omega))
 replace hE := hE.step ho16 (by first | omega | (simp only [blk_some, hi1_some] at *; omega))
 replace hb2 := hb2.out ho16 (by first | omega | (simp only [blk_some, hi1_some] at *; omega))
 have hrnhev := hev.rng
 replace hev := hev.out ho16 (by first | omega | (simp only [blk_some, hi1_some] at *; omega))
 have hrnhac := hac.rng
 replace hac := hac.out ho16 (by first | omega | (simp only [blk_some, hi1_some] at *; omega))
 refine rg_end ?_
 refine n_then ?_
 refine wp_seq ?_
 refine wp_seq ?_
 refine rg ?_
 refine st (y_fld fld26_2 rfl) ?_
 refine st (y_lb hb3 na24 rfl rfl) ?_
 refine st (y_len Try.underlying24 rfl) ?_
 refine st (mvI rfl) ?_
 refine rg_end ?_
 refine n_then ?_
 refine wp_block ?_
 have hac0 := hac.rng
 have hev0 := hev.rng
 obtain ⟨z0, hz0⟩ : ∃ z, z = w15.heap.size := ⟨_, rfl⟩
 have hal : N.acts.length ≤ 8 := hsm.2.2.2.2.2.1
 refine lp (γ := Nat) [4, 5, 11, 12, 13, 14, 15, 16, 17, 18, 19, 20, 21, 22, 23, 24, 25, 26, 27, 28, 29, 30, 31, 32, 33, 34, 35, 36, 37, 38] (fun k => [(11, .int .i64 (k : Int))]) (fun k w_ => Out (blk A.aa) (hi1 A.aa) w15 w_ ∧ (k : Int) ≤ N.acts.length ∧ Ow 36 encAc 6 w.heap.size z0 w_ A.aa A.ca (((N.acts.take k).map (slackW N.p)) ++ N.acts.drop k)) (fun k => N.acts.length - k) 0 ⟨rfl, trivial⟩ ⟨Out.refl _ _ _, by omega, by have h2 := (hac.lower (lo' := w.heap.size) (by omega)).wide (hi' := z0) (by omega); simpa using h2⟩ ?_
 rintro k hav_ w19 ⟨ho20, hk, hac⟩
 have hlp0 := ho20
 have hz21 := ho20.size
 replace hL := hL.out ho20 (by first | omega | (simp only [blk_some, hi1_some] at *; omega))
 replace hE := hE.step ho20 (by first | omega | (simp only [blk_some, hi1_some] at *; omega))
 replace hb2 := hb2.out ho20 (by first | omega | (simp only [blk_some, hi1_some] at *; omega))
 replace hev := hev.out ho20 (by first | omega | (simp only [blk_some, hi1_some] at *; omega))
 replace hb3 := hb3.out ho20 (by first | omega | (simp only [blk_some, hi1_some] at *; omega))
 refine wp_seq ?_
 refine rg ?_
 refine st (y_lss rfl rfl) ?_
 refine rg_end ?_
 refine n_then ?_
 refine wp_seq ?_
 refine cnd rfl (fun hc0 => ?_) (fun hc0 => ?_)
 ·
  try simp only [nm] at hc0
  have hwl := slack_len (p := N.p) (acts := N.acts) (k := k) (by omega)
  have hwe := slack_el (p := N.p) (acts := N.acts) (k := k) (by omega)
  have hmn := hsm.2.2.2.2.2.2 _ (el_mem (l := N.acts) (i := k) (by omega) hc0)
  obtain ⟨_, _, _, _, _, hm0, hm1, hm2, hm3, _, _⟩ := hsm.1.acs _ (el_mem (l := N.acts) (i := k) (by omega) hc0)
  have hp1 := hsm.2.1
  have hp2 := hsm.2.2.1
  have hd0 : 0 ≤ N.p.tdiv 2 := Int.tdiv_nonneg (by omega) (by decide)
  have hd1 : N.p.tdiv 2 ≤ N.p := Int.tdiv_le_self 2 (by omega)
  refine wp_skip ?_
  refine n_then ?_
  refine wp_seq ?_
  refine wp_block ?_
  refine wp_seq ?_
  refine rg ?_
  refine st (mvI rfl) ?_
  refine st (asI rfl) ?_
  refine rg_end ?_
  refine n_then ?_
  refine wp_seq ?_
  refine rg ?_
  refine st (y_fld fld26_2 rfl) ?_
  refine st (y_lb hb3 na24 rfl rfl) ?_
  refine st (mvI rfl) ?_
  refine st (y_ix hac.sl sl24 rfl (hwl.symm) rfl (by omega) (by rw [hwl]; omega)) ?_
  refine st (asP rfl) ?_
  refine rg_end ?_
  refine n_then ?_
  refine rgD 18 (fun w_ => Ext w19 w_) (fun i => false) mixed (by kernel_rfl) ?_
  intro w22 ho23 hs24
  refine ⟨ho23, ?_⟩
  have hx25 := ho23
  refine tn rfl (fun _ hG => mvP rfl) ?_
  refine tn rfl (fun _ hG => mvP rfl) ?_
  refine tn rfl (fun _ hG => y_nil rfl) ?_
  refine tn rfl (fun _ hG => y_fld fld36_4 rfl) ?_
  refine tn rfl (fun _ hG => y_lf (hac.ext hG).sl na3 rfl (by omega) (by rw [hwl]; omega) rfl) ?_
  refine tn rfl (fun _ hG => y_fld fld26_0 rfl) ?_
  refine tn rfl (fun _ hG => y_lb (hb3.ext hG) na3 rfl rfl) ?_
  refine tn rfl (fun _ hG => y_quo rfl rfl (by omega) (by omega)) ?_
  refine tn rfl (fun _ hG => y_add rfl rfl (by rw [hwe]; omega)) ?_
  refine tn rfl (fun _ hG => mvP rfl) ?_
  refine tn rfl (fun _ hG => y_nil rfl) ?_
  refine tn rfl (fun _ hG => y_fld fld36_3 rfl) ?_
  refine tn rfl (fun _ hG => y_lf (hac.ext hG).sl na3 rfl (by omega) (by rw [hwl]; omega) rfl) ?_
  refine tn rfl (fun _ hG => y_fld fld26_0 rfl) ?_
  refine tn rfl (fun _ hG => y_lb (hb3.ext hG) na3 rfl rfl) ?_
  refine tn rfl (fun _ hG => y_add rfl rfl (by rw [hwe]; omega)) ?_
  refine tn rfl (fun _ hG => y_sub rfl rfl (by rw [hwe]; omega)) ?_
  refine tn rfl (fun _ hG => y_min rfl rfl) ?_
  refine t_end ?_
  have hz26 := hx25.size
  replace hL := hL.ext hx25
  replace hE := hE.step hx25 (.inl (Nat.le_refl _))
  replace hb2 := hb2.ext hx25
  replace hev := hev.ext hx25
  replace hb3 := hb3.ext hx25
  replace hac := hac.ext hx25
  replace hlp0 := hlp0.step hx25 (.inl (Nat.le_refl _))
  refine st (y_nil rfl) ?_
  refine st (y_fld fld36_4 rfl) ?_
  refine sd0 (d_se (j := 4) (e' := slackW N.p (el N.acts (k : Int))) hac sz3 rfl rfl rfl (by omega) (by rw [hwl]; omega) (Nat.le_of_ble_eq_true rfl) (by rw [hwe]; rfl) ?_)
  intro w27 hs29 ho28 hac'
  have hrhac := hac.rng
  clear hac; have hac := hac'; clear hac'
  have hz30 := ho28.size
  replace hL := hL.out ho28 (by first | omega | (simp only [blk_some, hi1_some] at *; omega))
  replace hE := hE.step ho28 (by first | omega | (simp only [blk_some, hi1_some] at *; omega))
  replace hb2 := hb2.out ho28 (by first | omega | (simp only [blk_some, hi1_some] at *; omega))
  replace hev := hev.out ho28 (by first | omega | (simp only [blk_some, hi1_some] at *; omega))
  replace hb3 := hb3.out ho28 (by first | omega | (simp only [blk_some, hi1_some] at *; omega))
  replace hlp0 := hlp0.step ho28 (by first | omega | (simp only [blk_some, hi1_some] at *; omega))
  simp only [Int.toNat_natCast] at hac
  rw [slack_set (by omega)] at hac
  refine rg_end ?_
  refine n_blk ?_
  refine n_then ?_
  refine rg ?_
  refine st (y_add rfl rfl (by omega)) ?_
  refine st (mvI rfl) ?_
  refine rg_end ?_
  exact n_then ⟨k + 1, _, rfl, same_lk rfl (same_h0), ⟨rfl, trivial⟩, ⟨hlp0, by omega, hac⟩, by first | omega | (dsimp only; omega)⟩
 ·
  try simp only [nm] at hc0
  have hkn : k = N.acts.length := by omega
  subst hkn
  rw [List.take_of_length_le (Nat.le_refl _), List.drop_of_length_le (Nat.le_refl _), List.append_nil] at hac
  refine wp_exit ?_
  refine e_then (e_then (e_blk (?_)))
  refine n_then ?_
  refine wp_seq ?_
  refine rg ?_
  refine st (y_lbN hb3 agg26 rfl) ?_
  refine sd0 (d_stN hb2 rfl rfl sz26 rfl rfl ?_)
  intro w31 hs33 ho32 hb2'
  clear hb2; have hb2 := hb2'; clear hb2'
  have hz34 := ho32.size
  replace hL := hL.out ho32 (by first | omega | (simp only [blk_some, hi1_some] at *; omega))
  replace hE := hE.step ho32 (by first | omega | (simp only [blk_some, hi1_some] at *; omega))
  replace hev := hev.out ho32 (by first | omega | (simp only [blk_some, hi1_some] at *; omega))
  replace hb3 := hb3.out ho32 (by first | omega | (simp only [blk_some, hi1_some] at *; omega))
  have hrnhac := hac.rng
  replace hac := hac.out ho32 (by first | omega | (simp only [blk_some, hi1_some] at *; omega))
  refine rg_end ?_
  refine n_then ?_
  refine wp_ret ?_
  refine retC Try.results12 hb2 agg26 rfl ?_
  exact ⟨⟨N.p, N.evs, N.acts.map (slackW N.p)⟩, A, by simp [netV], slack_net hsm, ⟨(hev.sl).wide (by omega) (by omega), (hac.sl).wide (by omega) (by omega)⟩, hE⟩

set_option maxRecDepth 100000 in
theorem keep_Same_Ev_ok (a b : List Ev) (aa ab : Option Addr) (ca cb la ha_ lb hb_ : Nat) (w : World) (hA : Sl encEv 3 la ha_ w aa a) (hB : Sl encEv 3 lb hb_ w ab b) (hn : (a.length : Int) ≤ 9223372036854775807) : Cal Try.prog 14 [.slice aa a.length ca, .slice ab b.length cb] w (fun v w' => v = .bool (decide (a = b)) ∧ Ext w w') := by
 have hE : Out 0 0 w w := Out.refl _ _ w
 refine enter Try.func14 rfl Try.ntmps14 rfl ?_
 refine wp_seq ?_
 refine rg ?_
 refine st (asB rfl) ?_
 refine rg_end ?_
 refine n_then ?_
 refine wp_seq ?_
 refine wp_seq ?_
 refine rg ?_
 refine st (mvS rfl) ?_
 refine st (y_len Try.underlying23 rfl) ?_
 refine st (mvS rfl) ?_
 refine st (y_len Try.underlying23 rfl) ?_
 refine st (y_neq rfl rfl) ?_
 refine rg_end ?_
 refine n_then ?_
 refine cnd rfl (fun hc0 => ?_) (fun hc0 => ?_)
 ·
  try simp only [nm] at hc0
  refine wp_seq ?_
  refine rg ?_
  refine st (asB rfl) ?_
  refine rg_end ?_
  refine n_then ?_
  refine wp_ret ?_
  refine r_then (ret1 (v := (.bool _)) Try.results14 rfl ?_)
  exact ⟨vb (by simp; intro h; subst h; omega), hE⟩
 ·
  try simp only [nm] at hc0
  have hln : a.length = b.length := by omega
  refine wp_skip ?_
  refine n_then ?_
  refine wp_seq ?_
  refine wp_seq ?_
  refine rg ?_
  refine st (mvS rfl) ?_
  refine st (y_len Try.underlying23 rfl) ?_
  refine st (mvI rfl) ?_
  refine rg_end ?_
  refine n_then ?_
  refine wp_block ?_
  refine lp (γ := Nat) [4, 5, 13, 14, 15, 16, 17, 18, 19, 20, 21, 22, 23, 24, 25] (fun k => [(13, .int .i64 (k : Int))]) (fun k w_ => Ext w w_ ∧ (k : Int) ≤ a.length ∧ ∀ q : Nat, q < k → el a q = el b q) (fun k => a.length - k) 0 ⟨rfl, trivial⟩ ⟨Out.refl _ _ _, by omega, fun q hq => by omega⟩ ?_
  rintro k hav_ w1 ⟨ho2, hk, hall⟩
  have hlp0 := ho2
  have hz3 := ho2.size
  replace hA := hA.ext ho2
  replace hB := hB.ext ho2
  replace hE := hE.step ho2 (.inl (Nat.le_refl _))
  refine wp_seq ?_
  refine rg ?_
  refine st (y_lss rfl rfl) ?_
  refine rg_end ?_
  refine n_then ?_
  refine wp_seq ?_
  refine cnd rfl (fun hc1 => ?_) (fun hc1 => ?_)
  ·
   try simp only [nm] at hc1
   refine wp_skip ?_
   refine n_then ?_
   refine wp_seq ?_
   refine wp_block ?_
   refine wp_seq ?_
   refine rg ?_
   refine st (mvI rfl) ?_
   refine st (asI rfl) ?_
   refine rg_end ?_
   refine n_then ?_
   refine wp_seq ?_
   refine rgD 8 (fun w_ => Ext w1 w_) (fun i => false) mixed (by kernel_rfl) ?_
   intro w4 ho5 hs6
   refine ⟨ho5, ?_⟩
   have hx7 := ho5
   refine tn rfl (fun _ hG => mvS rfl) ?_
   refine tn rfl (fun _ hG => mvI rfl) ?_
   refine tn rfl (fun _ hG => y_ix (hA.ext hG) sl23 rfl (rfl) rfl (by omega) (by omega)) ?_
   refine tn rfl (fun _ hG => y_lw (hA.ext hG) agg34 rfl (by omega) (by omega)) ?_
   refine tn rfl (fun _ hG => mvS rfl) ?_
   refine tn rfl (fun _ hG => mvI rfl) ?_
   refine tn rfl (fun _ hG => y_ix (hB.ext hG) sl23 rfl (rfl) rfl (by omega) (by omega)) ?_
   refine tn rfl (fun _ hG => y_lw (hB.ext hG) agg34 rfl (by omega) (by omega)) ?_
   refine t_end ?_
   have hz8 := hx7.size
   replace hA := hA.ext hx7
   replace hB := hB.ext hx7
   replace hE := hE.step hx7 (.inl (Nat.le_refl _))
   replace hlp0 := hlp0.step hx7 (.inl (Nat.le_refl _))
   refine st (y_neqS (eqEv _ _) eqg34 rfl rfl) ?_
   refine rg_end ?_
   refine n_then ?_
   refine cnd rfl (fun hc2 => ?_) (fun hc2 => ?_)
   ·
    try simp only [nm] at hc2
    refine wp_seq ?_
    refine rg ?_
    refine st (asB rfl) ?_
    refine rg_end ?_
    refine n_then ?_
    refine wp_ret ?_
    refine r_blk (r_then (r_then (r_blk (r_then (ret1 (v := (.bool _)) Try.results14 rfl ?_)))))
    exact ⟨vb (by simp; intro h; subst h; exact absurd rfl hc2), hE⟩
   ·
    try simp only [nm] at hc2
    refine wp_skip ?_
    refine n_blk ?_
    refine n_then ?_
    refine rg ?_
    refine st (y_add rfl rfl (by omega)) ?_
    refine st (mvI rfl) ?_
    refine rg_end ?_
    exact n_then ⟨k + 1, _, rfl, same_lk rfl (same_h0), ⟨rfl, trivial⟩, ⟨hlp0, by omega, fun q hq => by (by_cases e : q = k; subst e; assumption; exact hall q (by omega))⟩, by first | omega | (dsimp only; omega)⟩
  ·
   try simp only [nm] at hc1
   refine wp_exit ?_
   refine e_then (e_then (e_blk (?_)))
   refine n_then ?_
   refine wp_seq ?_
   refine rg ?_
   refine st (asB rfl) ?_
   refine rg_end ?_
   refine n_then ?_
   refine wp_ret ?_
   refine ret1 (v := (.bool _)) Try.results14 rfl ?_
   exact ⟨vb (by simp; exact list_ext_elG hln (fun q hq => hall q (by omega))), hE⟩

set_option maxRecDepth 100000 in
theorem contradiction_numbers_ok (N : Net) (A : NetA) (lo hi : Nat) (s : List Int) (as_ : Option Addr) (cs ls hs : Nat) (w : World) (hN : NetIn lo hi w N A) (hS : Ints ls hs w as_ s) (hn : (s.length : Int) ≤ 9223372036854775807) : Cal Try.prog 35 [netV N A, .slice as_ s.length cs] w (fun v w' => v = .bool (ascB N.acts.length (-1) s) ∧ Ext w w') := by
 replace hN := hN.full
 replace hS := Ints.full hS
 have hE : Out 0 0 w w := Out.refl _ _ w
 refine enter Try.func35 rfl Try.ntmps35 rfl ?_
 refine wp_seq ?_
 refine rg ?_
 refine sd (d_boxA rfl ?_)
 intro b2 w1 hbb2 hs3 ho2 hb2
 have hz4 := ho2.size
 replace hN := hN.ext ho2
 replace hS := hS.ext ho2
 replace hE := hE.step ho2 (.inl (Nat.le_refl _))
 refine st (asB rfl) ?_
 refine rg_end ?_
 refine n_then ?_
 refine wp_seq ?_
 refine rg ?_
 refine st (asI rfl) ?_
 refine rg_end ?_
 refine n_then ?_
 refine wp_seq ?_
 refine wp_seq ?_
 refine rg ?_
 refine st (mvS rfl) ?_
 refine st (y_len Try.underlying22 rfl) ?_
 refine st (mvI rfl) ?_
 refine rg_end ?_
 refine n_then ?_
 refine wp_block ?_
 refine lp (γ := Nat × Int) [4, 5, 7, 10, 11, 12, 13, 14, 15, 16, 17, 18, 19, 20, 21, 22, 23, 24, 25] (fun ⟨k, last⟩ => [(10, .int .i64 (k : Int)), (5, .int .i64 last)]) (fun ⟨k, last⟩ w_ => Ext w1 w_ ∧ (k : Int) ≤ s.length ∧ ascB N.acts.length (-1) s = ascB N.acts.length last (s.drop k)) (fun ⟨k, last⟩ => s.length - k) (0, -1) ⟨rfl, rfl, trivial⟩ ⟨Out.refl _ _ _, by simp, rfl⟩ ?_
 rintro ⟨k, last⟩ hav_ w5 ⟨ho6, hk, hasc⟩
 have hlp0 := ho6
 have hz7 := ho6.size
 replace hN := hN.ext ho6
 replace hS := hS.ext ho6
 replace hE := hE.step ho6 (.inl (Nat.le_refl _))
 replace hb2 := hb2.ext ho6
 refine wp_seq ?_
 refine rg ?_
 refine st (y_lss rfl rfl) ?_
 refine rg_end ?_
 refine n_then ?_
 refine wp_seq ?_
 refine cnd rfl (fun hc0 => ?_) (fun hc0 => ?_)
 ·
  try simp only [nm] at hc0
  have hd := dropE hc0
  refine wp_skip ?_
  refine n_then ?_
  refine wp_seq ?_
  refine wp_block ?_
  refine wp_seq ?_
  refine rg ?_
  refine st (y_ix hS sl22 rfl (rfl) rfl (by omega) (by omega)) ?_
  refine st (y_le hS na3 rfl (by omega) (by omega) rfl) ?_
  refine st (asI rfl) ?_
  refine rg_end ?_
  refine n_then ?_
  refine wp_seq ?_
  refine cut (γ := Unit) [14, 15, 16, 17, 18, 19, 20, 21, 22, 23] (fun _ => [(23, .bool (decide (¬ (last < el s (k : Int) ∧ el s (k : Int) < N.acts.length))))]) (fun _ w_ => Ext w5 w_ ∧ True) ?_ ?_
  ·
   have hcut := Out.refl 0 0 w5
   refine rg ?_
   refine st (mvI rfl) ?_
   refine st (mvI rfl) ?_
   refine st (y_leq rfl rfl) ?_
   refine st (mvB rfl) ?_
   refine gspL 17 rfl (fun hg8 => ?_) (fun hg8 => ?_)
   ·
    have hg8n := hg8; try simp only [nm] at hg8n
    refine sts rfl rfl hg8 ?_
    refine sts rfl rfl hg8 ?_
    refine sts rfl rfl hg8 ?_
    refine sts rfl rfl hg8 ?_
    refine sts rfl rfl hg8 ?_
    refine st (y_pickT rfl hg8 (v := .bool _) rfl) ?_
    refine rg_end ?_
    exact n_then ⟨(), _, rfl, same_lk rfl (same_rfl), ⟨vb (by simp only [decide_eq_true_eq, decide_eq_false_iff_not, Bool.not_eq_true', Bool.not_eq_eq_eq_not, Bool.not_true, Bool.false_eq_true, false_iff, true_iff, iff_true, iff_false]; omega), trivial⟩, ⟨hcut, trivial⟩⟩
   ·
    have hg8n := hg8; try simp only [nm] at hg8n
    refine stg rfl rfl hg8 (mvI rfl) ?_
    refine stg rfl rfl hg8 (y_fld fld26_2 rfl) ?_
    refine stg rfl rfl hg8 (y_lb hb2 na24 rfl rfl) ?_
    refine stg rfl rfl hg8 (y_len Try.underlying24 rfl) ?_
    refine stg rfl rfl hg8 (y_geq rfl rfl) ?_
    refine st (y_pickF rfl hg8 (v := .bool _) rfl) ?_
    refine rg_end ?_
    exact n_then ⟨(), _, rfl, same_lk rfl (same_rfl), ⟨vb (by simp only [decide_eq_true_eq, decide_eq_false_iff_not, Bool.not_eq_true', Bool.not_eq_eq_eq_not, Bool.not_true, Bool.false_eq_true, false_iff, true_iff, iff_true, iff_false]; omega), trivial⟩, ⟨hcut, trivial⟩⟩
  ·
   rintro _ hav_ w9 ⟨ho10, _⟩
   have hz11 := ho10.size
   replace hN := hN.ext ho10
   replace hS := hS.ext ho10
   replace hE := hE.step ho10 (.inl (Nat.le_refl _))
   replace hb2 := hb2.ext ho10
   replace hlp0 := hlp0.step ho10 (.inl (Nat.le_refl _))
   refine cnd rfl (fun hc1 => ?_) (fun hc1 => ?_)
   ·
    try simp only [nm] at hc1
    refine wp_seq ?_
    refine rg ?_
    refine st (asB rfl) ?_
    refine rg_end ?_
    refine n_then ?_
    refine wp_ret ?_
    refine r_then (r_blk (r_then (r_then (r_blk (r_then (ret1 (v := (.bool _)) Try.results35 rfl ?_))))))
    exact ⟨by rw [hasc, hd, ascB]; simp [hc1], hE⟩
   ·
    try simp only [nm] at hc1
    refine wp_skip ?_
    refine n_then ?_
    refine rg ?_
    refine st (mvI rfl) ?_
    refine st (asI rfl) ?_
    refine rg_end ?_
    refine n_blk ?_
    refine n_then ?_
    refine rg ?_
    refine st (y_add rfl rfl (by omega)) ?_
    refine st (mvI rfl) ?_
    refine rg_end ?_
    exact n_then ⟨(k + 1, _), _, rfl, same_lk rfl (same_hav rfl (same_lk rfl (same_h0))), ⟨rfl, rfl, trivial⟩, ⟨hlp0, by omega, by rw [hasc, hd, ascB]; simp [hc1]⟩, by first | omega | (dsimp only; omega)⟩
 ·
  try simp only [nm] at hc0
  have hd : s.drop k = [] := List.drop_eq_nil_of_le (by omega)
  refine wp_exit ?_
  refine e_then (e_then (e_blk (?_)))
  refine n_then ?_
  refine wp_seq ?_
  refine rg ?_
  refine st (asB rfl) ?_
  refine rg_end ?_
  refine n_then ?_
  refine wp_ret ?_
  refine ret1 (v := (.bool _)) Try.results35 rfl ?_
  exact ⟨by rw [hasc, hd]; rfl, hE⟩

set_option maxHeartbeats 1000000 in
set_option maxRecDepth 100000 in
theorem contradiction_subset_ok (N : Net) (A : NetA) (lo hi : Nat) (s : List Int) (as_ : Option Addr) (cs ls hs : Nat) (w : World) (hN : NetIn lo hi w N A) (hS : Ints ls hs w as_ s) (hev : (N.evs.length : Int) ≤ 48) (hsl : (s.length : Int) ≤ 1000) (hset : ∀ a ∈ s, 0 ≤ a ∧ a < N.acts.length) : Cal Try.prog 36 [netV N A, .slice as_ s.length cs] w (fun v w' => ∃ A', v = netV (subN N s) A' ∧ Ow 34 encEv 3 w.heap.size w'.heap.size w' A'.ae A'.ce N.evs ∧ Ow 36 encAc 6 w.heap.size w'.heap.size w' A'.aa A'.ca (s.map (el N.acts)) ∧ Ext w w') := by
 replace hN := hN.full
 replace hS := Ints.full hS
 have hE : Out 0 0 w w := Out.refl _ _ w
 refine enter Try.func36 rfl Try.ntmps36 rfl ?_
 refine wp_seq ?_
 refine rg ?_
 refine sd (d_boxA rfl ?_)
 intro b2 w1 hbb2 hs3 ho2 hb2
 have hz4 := ho2.size
 replace hN := hN.ext ho2
 replace hS := hS.ext ho2
 replace hE := hE.step ho2 (.inl (Nat.le_refl _))
 refine sd (d_allocA zer26 ?_)
 intro b4 w5 hbb4 hs7 ho6 hb4
 have hz8 := ho6.size
 replace hN := hN.ext ho6
 replace hS := hS.ext ho6
 replace hE := hE.step ho6 (.inl (Nat.le_refl _))
 replace hb2 := hb2.ext ho6
 refine rg_end ?_
 refine n_then ?_
 refine cut (γ := Nat × Option Addr × Nat) [5, 8, 9, 10, 11, 12, 13] (fun ⟨bp, ae, ce⟩ => [(5, .pointer (some ⟨bp, 0, none⟩))]) (fun ⟨bp, ae, ce⟩ w_ => Ext w5 w_ ∧ Blk w_ bp [.int .i64 N.p, .slice ae N.evs.length ce, .slice none 0 0] ∧ Ow 34 encEv 3 (b4 + 1) w_.heap.size w_ ae ce N.evs ∧ b4 + 1 ≤ bp ∧ bp < w_.heap.size ∧ (bp < blk ae ∨ hi1 ae ≤ bp)) ?_ ?_
 ·
  have hcut := Out.refl 0 0 w5
  refine rgP 7 (fun w_ => Ext w5 w_) (fun i => Nat.beq i 4 || Nat.beq i 6) (.step 0 (.step 1 (.step 2 (.step 3 (.fork 4 (.step 5 (.step 6 (.done))) (.fork 6 (.step 4 (.step 5 (.done))) (.last))))))) mixed (by kernel_rfl) ?_
  intro w9 ho10 hs11
  refine ⟨ho10, ?_⟩
  have hx12 := ho10
  refine p_step rfl ?_
  refine tn rfl (fun _ hG => y_fld fld26_0 rfl) ?_
  refine t_end ?_
  refine p_step rfl ?_
  refine tn rfl (fun _ hG => y_lb (hb2.ext hG) na3 rfl rfl) ?_
  refine t_end ?_
  refine p_step rfl ?_
  refine tn rfl (fun _ hG => y_fld fld26_1 rfl) ?_
  refine t_end ?_
  refine p_step rfl ?_
  refine tn rfl (fun _ hG => y_lb (hb2.ext hG) na23 rfl rfl) ?_
  refine t_end ?_
  refine p_fork ?_ ?_
  ·
   refine p_step rfl ?_
   refine tc rfl cl63 (clone_Ev_ok _ _ _ _ _ _ (hN.e.ext hx12) (by omega)) rfl ?_
   rintro v17 w13 ⟨ae, ce, rfl, he, ho14⟩
   have hx18 := hx12.step ho14 (.inl (Nat.le_refl _))
   have hz19 := ho14.size
   refine ⟨hx18, ?_⟩
   refine t_end ?_
   refine p_step rfl ?_
   refine tn rfl (fun _ hG => y_build (bld26_0_1 _ _ _ _ _) rfl) ?_
   refine t_end ?_
   refine p_step rfl ?_
   refine td rfl (d_allocA zer26 ?_)
   intro bq w20 hbbq hs22 ho21 hbq
   have hx23 := hx18.step ho21 (.inl (Nat.le_refl _))
   have hz24 := ho21.size
   replace he := he.ext ho21
   refine ⟨hx23, ?_⟩
   refine t_end ?_
   refine p_done ?_
   have hz25 := hx23.size
   replace hN := hN.ext hx23
   replace hS := hS.ext hx23
   replace hE := hE.step hx23 (.inl (Nat.le_refl _))
   replace hb2 := hb2.ext hx23
   replace hb4 := hb4.ext hx23
   replace hcut := hcut.step hx23 (.inl (Nat.le_refl _))
   refine sd0 (d_stN hbq rfl rfl sz26 rfl rfl ?_)
   intro w26 hs28 ho27 hbq'
   clear hbq; have hbq := hbq'; clear hbq'
   have hz29 := ho27.size
   replace hN := hN.out ho27 (by first | omega | (simp only [blk_some, hi1_some] at *; omega))
   replace hS := hS.out ho27 (by first | omega | (simp only [blk_some, hi1_some] at *; omega))
   replace hE := hE.step ho27 (by first | omega | (simp only [blk_some, hi1_some] at *; omega))
   replace hb2 := hb2.out ho27 (by first | omega | (simp only [blk_some, hi1_some] at *; omega))
   replace hb4 := hb4.out ho27 (by first | omega | (simp only [blk_some, hi1_some] at *; omega))
   replace hcut := hcut.step ho27 (by first | omega | (simp only [blk_some, hi1_some] at *; omega))
   have hrnhe := he.rng
   replace he := he.out ho27 (by first | omega | (simp only [blk_some, hi1_some] at *; omega))
   refine rg_end ?_
   have her := he.rng
   exact n_then ⟨(bq, ae, ce), _, rfl, same_lk rfl (same_rfl), ⟨rfl, trivial⟩, ⟨hcut, hbq, (he.lower (by omega)).wide (by omega), by (try dsimp only); omega, by (try dsimp only); omega, by (try dsimp only); omega⟩⟩
  refine p_fork ?_ ?_
  ·
   refine p_step rfl ?_
   refine td rfl (d_allocA zer26 ?_)
   intro bq w30 hbbq hs32 ho31 hbq
   have hx33 := hx12.step ho31 (.inl (Nat.le_refl _))
   have hz34 := ho31.size
   refine ⟨hx33, ?_⟩
   refine t_end ?_
   refine p_step rfl ?_
   refine tc rfl cl63 (clone_Ev_ok _ _ _ _ _ _ (hN.e.ext hx33) (by omega)) rfl ?_
   rintro v39 w35 ⟨ae, ce, rfl, he, ho36⟩
   have hx40 := hx33.step ho36 (.inl (Nat.le_refl _))
   have hz41 := ho36.size
   replace hbq := hbq.ext ho36
   refine ⟨hx40, ?_⟩
   refine t_end ?_
   refine p_step rfl ?_
   refine tn rfl (fun _ hG => y_build (bld26_0_1 _ _ _ _ _) rfl) ?_
   refine t_end ?_
   refine p_done ?_
   have hz42 := hx40.size
   replace hN := hN.ext hx40
   replace hS := hS.ext hx40
   replace hE := hE.step hx40 (.inl (Nat.le_refl _))
   replace hb2 := hb2.ext hx40
   replace hb4 := hb4.ext hx40
   replace hcut := hcut.step hx40 (.inl (Nat.le_refl _))
   refine sd0 (d_stN hbq rfl rfl sz26 rfl rfl ?_)
   intro w43 hs45 ho44 hbq'
   clear hbq; have hbq := hbq'; clear hbq'
   have hz46 := ho44.size
   replace hN := hN.out ho44 (by first | omega | (simp only [blk_some, hi1_some] at *; omega))
   replace hS := hS.out ho44 (by first | omega | (simp only [blk_some, hi1_some] at *; omega))
   replace hE := hE.step ho44 (by first | omega | (simp only [blk_some, hi1_some] at *; omega))
   replace hb2 := hb2.out ho44 (by first | omega | (simp only [blk_some, hi1_some] at *; omega))
   replace hb4 := hb4.out ho44 (by first | omega | (simp only [blk_some, hi1_some] at *; omega))
   replace hcut := hcut.step ho44 (by first | omega | (simp only [blk_some, hi1_some] at *; omega))
   have hrnhe := he.rng
   replace he := he.out ho44 (by first | omega | (simp only [blk_some, hi1_some] at *; omega))
   refine rg_end ?_
   have her := he.rng
   exact n_then ⟨(bq, ae, ce), _, rfl, same_lk rfl (same_rfl), ⟨rfl, trivial⟩, ⟨hcut, hbq, (he.lower (by omega)).wide (by omega), by (try dsimp only); omega, by (try dsimp only); omega, by (try dsimp only); omega⟩⟩
  exact p_last
 ·
  rintro ⟨bp, ae, ce⟩ hav_ w47 ⟨ho48, hbp, he, hp0, hp1, hpd⟩
  have hz49 := ho48.size
  replace hN := hN.ext ho48
  replace hS := hS.ext ho48
  replace hE := hE.step ho48 (.inl (Nat.le_refl _))
  replace hb2 := hb2.ext ho48
  replace hb4 := hb4.ext ho48
  refine wp_seq ?_
  refine wp_seq ?_
  refine rg ?_
  refine st (mvS rfl) ?_
  refine st (y_len Try.underlying22 rfl) ?_
  refine st (mvI rfl) ?_
  refine rg_end ?_
  refine n_then ?_
  refine wp_block ?_
  have her := he.rng
  obtain ⟨z1, hz1⟩ : ∃ z, z = w47.heap.size := ⟨_, rfl⟩
  refine lp (γ := Nat × List Ac × Option Addr × Nat) [7, 16, 17, 18, 19, 20, 21, 22, 23, 24, 25, 26, 27, 28, 29, 30] (fun ⟨k, acts, aa, ca⟩ => [(16, .int .i64 (k : Int))]) (fun ⟨k, acts, aa, ca⟩ w_ => Out bp (bp + 1) w47 w_ ∧ (k : Int) ≤ s.length ∧ acts = (s.take k).map (el N.acts) ∧ Blk w_ bp [.int .i64 N.p, .slice ae N.evs.length ce, .slice aa acts.length ca] ∧ Ow 36 encAc 6 z1 w_.heap.size w_ aa ca acts) (fun ⟨k, acts, aa, ca⟩ => s.length - k) (0, [], none, 0) ⟨rfl, trivial⟩ ⟨Out.refl _ _ _, by simp, by simp, hbp, Ow.nil (fun _ => rfl)⟩ ?_
  rintro ⟨k, acts, aa, ca⟩ hav_ w50 ⟨ho51, hk, hac, hbp, ha_⟩
  have hlp0 := ho51
  have hz52 := ho51.size
  replace hN := hN.out ho51 (by first | omega | (simp only [blk_some, hi1_some] at *; omega))
  replace hS := hS.out ho51 (by first | omega | (simp only [blk_some, hi1_some] at *; omega))
  replace hE := hE.step ho51 (by first | omega | (simp only [blk_some, hi1_some] at *; omega))
  replace hb2 := hb2.out ho51 (by first | omega | (simp only [blk_some, hi1_some] at *; omega))
  replace hb4 := hb4.out ho51 (by first | omega | (simp only [blk_some, hi1_some] at *; omega))
  have hrnhe := he.rng
  replace he := he.out ho51 (by first | omega | (simp only [blk_some, hi1_some] at *; omega))
  refine wp_seq ?_
  refine rg ?_
  refine st (y_lss rfl rfl) ?_
  refine rg_end ?_
  refine n_then ?_
  refine wp_seq ?_
  refine cnd rfl (fun hc0 => ?_) (fun hc0 => ?_)
  ·
   try simp only [nm] at hc0
   have hai := hset _ (el_mem (l := s) (i := (k : Int)) (by omega) hc0)
   have hal : acts.length = k := by rw [hac]; simp; omega
   refine wp_skip ?_
   refine n_then ?_
   refine wp_seq ?_
   refine wp_block ?_
   refine wp_seq ?_
   refine rg ?_
   refine st (y_ix hS sl22 rfl (rfl) rfl (by omega) (by omega)) ?_
   refine st (y_le hS na3 rfl (by omega) (by omega) rfl) ?_
   refine st (asI rfl) ?_
   refine rg_end ?_
   refine n_then ?_
   refine rgD 8 (fun w_ => Ext w50 w_) (fun i => Nat.beq i 7) mixed (by kernel_rfl) ?_
   intro w53 ho54 hs55
   refine ⟨ho54, ?_⟩
   have hx56 := ho54
   refine tn rfl (fun _ hG => y_fld fld26_2 rfl) ?_
   refine tn rfl (fun _ hG => y_lb (hbp.ext hG) na24 rfl rfl) ?_
   refine tn rfl (fun _ hG => y_fld fld26_2 rfl) ?_
   refine tn rfl (fun _ hG => y_lb (hb2.ext hG) na24 rfl rfl) ?_
   refine tn rfl (fun _ hG => mvI rfl) ?_
   refine tn rfl (fun _ hG => y_ix (hN.a.ext hG) sl24 rfl (rfl) rfl (by omega) (by omega)) ?_
   refine tn rfl (fun _ hG => y_lw (hN.a.ext hG) agg36 rfl (by omega) (by omega)) ?_
   refine td rfl (d_bs (bsl24_1 _ _ _ _ _ _ _) rfl ?_)
   intro bl60 w57 hbbl60 hs59 ho58 hbl60
   have hx61 := hx56.step ho58 (.inl (Nat.le_refl _))
   have hz62 := ho58.size
   refine ⟨hx61, ?_⟩
   refine t_end ?_
   have hz63 := hx61.size
   replace hN := hN.ext hx61
   replace hS := hS.ext hx61
   replace hE := hE.step hx61 (.inl (Nat.le_refl _))
   replace hb2 := hb2.ext hx61
   replace hb4 := hb4.ext hx61
   replace he := he.ext hx61
   replace hbp := hbp.ext hx61
   replace ha_ := ha_.ext hx61
   replace hlp0 := hlp0.step hx61 (.inl (Nat.le_refl _))
   have hrha_ := ha_.rng
   refine sd (d_app (xs := [el N.acts (el s (k : Int))]) ha_ sl24 infoz36 (by decide) rfl rfl rfl rfl (hbl60) (fun _ => rfl) (by simp; unfold maxLen; omega) (by simp; omega) (by omega) (by omega) ?_)
   intro aa1 ca1 w64 ho65 ha_'
   have hs66 := ho65.size
   clear ha_; have ha_ := ha_'; clear ha_'
   have hz69 := ho65.size
   replace hN := hN.out ho65 (by first | omega | (simp only [blk_some, hi1_some] at *; omega))
   replace hS := hS.out ho65 (by first | omega | (simp only [blk_some, hi1_some] at *; omega))
   replace hE := hE.step ho65 (by first | omega | (simp only [blk_some, hi1_some] at *; omega))
   replace hb2 := hb2.out ho65 (by first | omega | (simp only [blk_some, hi1_some] at *; omega))
   replace hb4 := hb4.out ho65 (by first | omega | (simp only [blk_some, hi1_some] at *; omega))
   replace he := he.out ho65 (by first | omega | (simp only [blk_some, hi1_some] at *; omega))
   replace hbp := hbp.out ho65 (by first | omega | (simp only [blk_some, hi1_some] at *; omega))
   replace hlp0 := hlp0.step ho65 (by first | omega | (simp only [blk_some, hi1_some] at *; omega))
   refine st (y_fld fld26_2 rfl) ?_
   refine sd0 (d_st hbp sz24 rfl rfl rfl (Nat.le_of_ble_eq_true rfl) ?_)
   intro w70 hs72 ho71 hbp'
   clear hbp; have hbp := hbp'; clear hbp'
   have hz73 := ho71.size
   replace hN := hN.out ho71 (by first | omega | (simp only [blk_some, hi1_some] at *; omega))
   replace hS := hS.out ho71 (by first | omega | (simp only [blk_some, hi1_some] at *; omega))
   replace hE := hE.step ho71 (by first | omega | (simp only [blk_some, hi1_some] at *; omega))
   replace hb2 := hb2.out ho71 (by first | omega | (simp only [blk_some, hi1_some] at *; omega))
   replace hb4 := hb4.out ho71 (by first | omega | (simp only [blk_some, hi1_some] at *; omega))
   replace he := he.out ho71 (by first | omega | (simp only [blk_some, hi1_some] at *; omega))
   replace hlp0 := hlp0.step ho71 (by first | omega | (simp only [blk_some, hi1_some] at *; omega))
   have hrnha_ := ha_.rng
   replace ha_ := ha_.out ho71 (by first | omega | (simp only [blk_some, hi1_some] at *; omega))
   refine rg_end ?_
   refine n_blk ?_
   refine n_then ?_
   refine rg ?_
   refine st (y_add rfl rfl (by omega)) ?_
   refine st (mvI rfl) ?_
   refine rg_end ?_
   exact n_then ⟨(k + 1, _, _, _), _, rfl, same_lk rfl (same_h0), ⟨rfl, trivial⟩, ⟨hlp0, by omega, by rw [takeE hc0, List.map_append, hac]; rfl, hbp, ha_.wide (by omega)⟩, by first | omega | (dsimp only; omega)⟩
  ·
   try simp only [nm] at hc0
   refine wp_exit ?_
   refine e_then (e_then (e_blk (?_)))
   refine n_then ?_
   refine wp_seq ?_
   refine rg ?_
   refine st (y_lbN hbp agg26 rfl) ?_
   refine sd0 (d_stN hb4 rfl rfl sz26 rfl rfl ?_)
   intro w74 hs76 ho75 hb4'
   clear hb4; have hb4 := hb4'; clear hb4'
   have hz77 := ho75.size
   replace hN := hN.out ho75 (by first | omega | (simp only [blk_some, hi1_some] at *; omega))
   replace hS := hS.out ho75 (by first | omega | (simp only [blk_some, hi1_some] at *; omega))
   replace hE := hE.step ho75 (by first | omega | (simp only [blk_some, hi1_some] at *; omega))
   replace hb2 := hb2.out ho75 (by first | omega | (simp only [blk_some, hi1_some] at *; omega))
   replace he := he.out ho75 (by first | omega | (simp only [blk_some, hi1_some] at *; omega))
   replace hbp := hbp.out ho75 (by first | omega | (simp only [blk_some, hi1_some] at *; omega))
   have hrnha_ := ha_.rng
   replace ha_ := ha_.out ho75 (by first | omega | (simp only [blk_some, hi1_some] at *; omega))
   refine rg_end ?_
   refine n_then ?_
   refine wp_ret ?_
   refine retC Try.results36 hb4 agg26 rfl ?_
   have hks : s.take k = s := List.take_of_length_le (by omega)
   rw [hks] at hac
   subst hac
   exact ⟨⟨ae, ce, aa, ca⟩, by simp [netV, subN], (he.lower (by omega)).wide (by omega), (ha_.lower (by omega)).wide (by omega), hE⟩

set_option maxRecDepth 100000 in
theorem contradiction_Subset_ok (N : Net) (A : NetA) (lo hi : Nat) (s : List Int) (as_ : Option Addr) (cs ls hs : Nat) (w : World) (hN : NetIn lo hi w N A) (hS : Ints ls hs w as_ s) (hn : (s.length : Int) ≤ 9223372036854775807) : Cal Try.prog 13 [netV N A, .slice as_ s.length cs] w (fun v w' => ∃ A', v = .tuple #[netV (subM N s) A', .int .i64 (subE N s)] ∧ NetIn w.heap.size w'.heap.size w' (subM N s) A' ∧ Ext w w') := by
 replace hN := hN.full
 replace hS := Ints.full hS
 have hE : Out 0 0 w w := Out.refl _ _ w
 refine enter Try.func13 rfl Try.ntmps13 rfl ?_
 refine wp_seq ?_
 refine rg ?_
 refine sd (d_boxA rfl ?_)
 intro b2 w1 hbb2 hs3 ho2 hb2
 have hz4 := ho2.size
 replace hN := hN.ext ho2
 replace hS := hS.ext ho2
 replace hE := hE.step ho2 (.inl (Nat.le_refl _))
 refine sd (d_allocA zer26 ?_)
 intro b4 w5 hbb4 hs7 ho6 hb4
 have hz8 := ho6.size
 replace hN := hN.ext ho6
 replace hS := hS.ext ho6
 replace hE := hE.step ho6 (.inl (Nat.le_refl _))
 replace hb2 := hb2.ext ho6
 refine st (asI rfl) ?_
 refine rg_end ?_
 refine n_then ?_
 refine wp_seq ?_
 refine wp_seq ?_
 refine rg ?_
 refine st (y_lbN hb2 agg26 rfl) ?_
 refine sc cl34 (network_Check_ok N A _ _ _ hN) rfl ?_
 rintro v13 w9 ⟨rfl, ho10⟩
 have hz14 := ho10.size
 replace hN := hN.ext ho10
 replace hS := hS.ext ho10
 replace hE := hE.step ho10 (.inl (Nat.le_refl _))
 replace hb2 := hb2.ext ho10
 replace hb4 := hb4.ext ho10
 refine st (y_not rfl) ?_
 refine rg_end ?_
 refine n_then ?_
 refine cnd rfl (fun hc0 => ?_) (fun hc0 => ?_)
 ·
  try simp only [nm] at hc0
  obtain ⟨q1, q2⟩ := subE1 (s := s) hc0
  refine wp_seq ?_
  refine rg ?_
  refine st (y_build (bld26_ _) rfl) ?_
  refine sd0 (d_stN hb4 rfl rfl sz26 rfl rfl ?_)
  intro w15 hs17 ho16 hb4'
  clear hb4; have hb4 := hb4'; clear hb4'
  have hz18 := ho16.size
  replace hN := hN.out ho16 (by first | omega | (simp only [blk_some, hi1_some] at *; omega))
  replace hS := hS.out ho16 (by first | omega | (simp only [blk_some, hi1_some] at *; omega))
  replace hE := hE.step ho16 (by first | omega | (simp only [blk_some, hi1_some] at *; omega))
  replace hb2 := hb2.out ho16 (by first | omega | (simp only [blk_some, hi1_some] at *; omega))
  refine st (asI rfl) ?_
  refine rg_end ?_
  refine n_then ?_
  refine wp_ret ?_
  refine r_then (retC2 (v' := (.int .i64 _)) Try.results13 hb4 agg26 rfl rfl ?_)
  rw [q1, q2]
  exact ⟨⟨none, 0, none, 0⟩, rfl, ⟨⟨fun h => absurd rfl h, fun i x hx => by simp at hx⟩, ⟨fun h => absurd rfl h, fun i x hx => by simp at hx⟩⟩, hE⟩
 ·
  try simp only [nm] at hc0
  have hok := netOk_iff.1 hc0
  refine wp_skip ?_
  refine n_then ?_
  refine wp_seq ?_
  refine wp_seq ?_
  refine rg ?_
  refine st (y_lbN hb2 agg26 rfl) ?_
  refine st (mvS rfl) ?_
  refine sc cl35 (contradiction_numbers_ok N A _ _ s _ _ _ _ _ hN hS hn) rfl ?_
  rintro v23 w19 ⟨rfl, ho20⟩
  have hz24 := ho20.size
  replace hN := hN.ext ho20
  replace hS := hS.ext ho20
  replace hE := hE.step ho20 (.inl (Nat.le_refl _))
  replace hb2 := hb2.ext ho20
  replace hb4 := hb4.ext ho20
  refine st (y_not rfl) ?_
  refine rg_end ?_
  refine n_then ?_
  refine cnd rfl (fun hc1 => ?_) (fun hc1 => ?_)
  ·
   try simp only [nm] at hc1
   obtain ⟨q1, q2⟩ := subE4 hc0 hc1
   refine wp_seq ?_
   refine rg ?_
   refine st (y_build (bld26_ _) rfl) ?_
   refine sd0 (d_stN hb4 rfl rfl sz26 rfl rfl ?_)
   intro w25 hs27 ho26 hb4'
   clear hb4; have hb4 := hb4'; clear hb4'
   have hz28 := ho26.size
   replace hN := hN.out ho26 (by first | omega | (simp only [blk_some, hi1_some] at *; omega))
   replace hS := hS.out ho26 (by first | omega | (simp only [blk_some, hi1_some] at *; omega))
   replace hE := hE.step ho26 (by first | omega | (simp only [blk_some, hi1_some] at *; omega))
   replace hb2 := hb2.out ho26 (by first | omega | (simp only [blk_some, hi1_some] at *; omega))
   refine st (asI rfl) ?_
   refine rg_end ?_
   refine n_then ?_
   refine wp_ret ?_
   refine r_then (retC2 (v' := (.int .i64 _)) Try.results13 hb4 agg26 rfl rfl ?_)
   rw [q1, q2]
   exact ⟨⟨none, 0, none, 0⟩, rfl, ⟨⟨fun h => absurd rfl h, fun i x hx => by simp at hx⟩, ⟨fun h => absurd rfl h, fun i x hx => by simp at hx⟩⟩, hE⟩
  ·
   try simp only [nm] at hc1
   obtain ⟨q1, q2⟩ := subE0 hc0 hc1
   have hac := hok.ac
   have hsl := asc_len s (-1) hc1 (by omega)
   have hrg : ∀ a ∈ s, 0 ≤ a ∧ a < N.acts.length := fun a ha => by have := asc_rng s (-1) hc1 a ha; omega
   refine wp_skip ?_
   refine n_then ?_
   refine wp_seq ?_
   refine rg ?_
   refine st (y_lbN hb2 agg26 rfl) ?_
   refine st (mvS rfl) ?_
   refine sc cl36 (contradiction_subset_ok N A _ _ s _ _ _ _ _ hN hS hok.ev (by omega) hrg) rfl ?_
   rintro v33 w29 ⟨A', rfl, he', ha', ho30⟩
   have hz34 := ho30.size
   replace hN := hN.ext ho30
   replace hS := hS.ext ho30
   replace hE := hE.step ho30 (.inl (Nat.le_refl _))
   replace hb2 := hb2.ext ho30
   replace hb4 := hb4.ext ho30
   refine sd0 (d_stN hb4 rfl rfl sz26 rfl rfl ?_)
   intro w35 hs37 ho36 hb4'
   clear hb4; have hb4 := hb4'; clear hb4'
   have hz38 := ho36.size
   replace hN := hN.out ho36 (by first | omega | (simp only [blk_some, hi1_some] at *; omega))
   replace hS := hS.out ho36 (by first | omega | (simp only [blk_some, hi1_some] at *; omega))
   replace hE := hE.step ho36 (by first | omega | (simp only [blk_some, hi1_some] at *; omega))
   replace hb2 := hb2.out ho36 (by first | omega | (simp only [blk_some, hi1_some] at *; omega))
   have hrnhe' := he'.rng
   replace he' := he'.out ho36 (by first | omega | (simp only [blk_some, hi1_some] at *; omega))
   have hrnha' := ha'.rng
   replace ha' := ha'.out ho36 (by first | omega | (simp only [blk_some, hi1_some] at *; omega))
   refine st (asI rfl) ?_
   refine rg_end ?_
   refine n_then ?_
   refine wp_ret ?_
   refine retC2 (v' := (.int .i64 _)) Try.results13 hb4 agg26 rfl rfl ?_
   rw [q1, q2]
   exact ⟨A', rfl, ⟨Sl.wide he'.sl (by omega) (by omega), Sl.wide ha'.sl (by omega) (by omega)⟩, hE⟩
end Go.Proofs.Ytclligkngjhihaa
