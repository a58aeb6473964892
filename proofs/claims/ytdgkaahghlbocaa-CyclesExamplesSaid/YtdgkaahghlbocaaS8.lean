/-
  Walks of the functions, printed by a program out of the code and the loops' relations.
-/
import Derived.Test.YtdgkaahghlbocaaWkD
import Derived.Test.YtdgkaahghlbocaaProg
import Derived.KernelRfl
import Derived.Test.YtdgkaahghlbocaaS7
namespace Go.Proofs.Ytdgkaahghlbocaa
open Go.Wk Go.RowKit
set_option linter.unusedVariables false
set_option linter.unusedSimpArgs false
theorem cl34 : Callable Try.prog 34 := ⟨Try.call34⟩
theorem cl64 : Callable Try.prog 64 := ⟨Try.call64⟩

set_option maxRecDepth 100000 in
theorem keep_SameCycle_ok (xa xs : List Int) (xaa : Option Addr) (xca xla xha : Nat) (xag : Option Addr) (xcg xlg xhg : Nat) (ya ys : List Int) (yaa : Option Addr) (yca yla yha : Nat) (yag : Option Addr) (ycg ylg yhg : Nat) (w : World) (hxA : Ints xla xha w xaa xa) (hxS : Ints xlg xhg w xag xs) (hyA : Ints yla yha w yaa ya) (hyS : Ints ylg yhg w yag ys) (hn1 : (xa.length : Int) ≤ 1000000) (hn2 : (xs.length : Int) ≤ 1000000) : Cal Try.prog 64 [.agg #[.slice xaa xa.length xca, .slice xag xs.length xcg], .agg #[.slice yaa ya.length yca, .slice yag ys.length ycg]] w (fun v w' => v = .bool (decide ((xa, xs) = (ya, ys))) ∧ Ext w w') := by
 replace hxA := Ints.full hxA
 replace hxS := Ints.full hxS
 replace hyA := Ints.full hyA
 replace hyS := Ints.full hyS
 have hE : Out 0 0 w w := Out.refl _ _ w
 refine enter Try.func64 rfl Try.ntmps64 rfl ?_
 refine wp_seq ?_
 refine rg ?_
 refine sd (d_boxA rfl ?_)
 intro b2 w1 hbb2 hs3 ho2 hb2
 have hz4 := ho2.size
 replace hxA := hxA.ext ho2
 replace hxS := hxS.ext ho2
 replace hyA := hyA.ext ho2
 replace hyS := hyS.ext ho2
 replace hE := hE.step ho2 (.inl (Nat.le_refl _))
 refine sd (d_boxA rfl ?_)
 intro b3 w5 hbb3 hs7 ho6 hb3
 have hz8 := ho6.size
 replace hxA := hxA.ext ho6
 replace hxS := hxS.ext ho6
 replace hyA := hyA.ext ho6
 replace hyS := hyS.ext ho6
 replace hE := hE.step ho6 (.inl (Nat.le_refl _))
 replace hb2 := hb2.ext ho6
 refine st (asB rfl) ?_
 refine rg_end ?_
 refine n_then ?_
 refine wp_seq ?_
 refine rg ?_
 refine st (y_fld fld37_0 rfl) ?_
 refine st (y_lb hb2 na22 rfl rfl) ?_
 refine st (y_fld fld37_0 rfl) ?_
 refine st (y_lb hb3 na22 rfl rfl) ?_
 refine sc cl32 (keep_Same_int_ok xa ya _ _ _ _ _ _ _ _ _ hxA hyA (by omega)) rfl ?_
 rintro v13 w9 ⟨rfl, ho10⟩
 have hz14 := ho10.size
 replace hxA := hxA.ext ho10
 replace hxS := hxS.ext ho10
 replace hyA := hyA.ext ho10
 replace hyS := hyS.ext ho10
 replace hE := hE.step ho10 (.inl (Nat.le_refl _))
 replace hb2 := hb2.ext ho10
 replace hb3 := hb3.ext ho10
 refine st (mvB rfl) ?_
 refine gspL 10 rfl (fun hg15 => ?_) (fun hg15 => ?_)
 ·
  have hg15n := hg15; try simp only [nm] at hg15n
  refine stg rfl rfl hg15 (y_fld fld37_1 rfl) ?_
  refine stg rfl rfl hg15 (y_lb hb2 na22 rfl rfl) ?_
  refine stg rfl rfl hg15 (y_fld fld37_1 rfl) ?_
  refine stg rfl rfl hg15 (y_lb hb3 na22 rfl rfl) ?_
  refine scg rfl rfl hg15 cl32 (keep_Same_int_ok xs ys _ _ _ _ _ _ _ _ _ hxS hyS (by omega)) rfl ?_
  rintro v20 w16 ⟨rfl, ho17⟩
  have hz21 := ho17.size
  replace hxA := hxA.ext ho17
  replace hxS := hxS.ext ho17
  replace hyA := hyA.ext ho17
  replace hyS := hyS.ext ho17
  replace hE := hE.step ho17 (.inl (Nat.le_refl _))
  replace hb2 := hb2.ext ho17
  replace hb3 := hb3.ext ho17
  refine st (y_pickT rfl hg15 (v := .bool _) rfl) ?_
  refine st (asB rfl) ?_
  refine rg_end ?_
  refine n_then ?_
  refine wp_ret ?_
  refine ret1 (v := (.bool _)) Try.results64 rfl ?_
  exact ⟨vb (by simp_all), hE⟩
 ·
  have hg15n := hg15; try simp only [nm] at hg15n
  refine sts rfl rfl hg15 ?_
  refine sts rfl rfl hg15 ?_
  refine sts rfl rfl hg15 ?_
  refine sts rfl rfl hg15 ?_
  refine sts rfl rfl hg15 ?_
  refine st (y_pickF rfl hg15 (v := .bool _) rfl) ?_
  refine st (asB rfl) ?_
  refine rg_end ?_
  refine n_then ?_
  refine wp_ret ?_
  refine ret1 (v := (.bool _)) Try.results64 rfl ?_
  exact ⟨vb (by simp_all), hE⟩

set_option maxRecDepth 100000 in
theorem keep_SameCycles_ok (la lb : List Cyc) (aa ab : Option Addr) (ca cb l1 h1 l2 h2 : Nat) (w : World) (hA : CyIn l1 h1 w aa la) (hB : CyIn l2 h2 w ab lb) (hn : (la.length : Int) ≤ 1000000) (hln : ∀ r ∈ la, (r.arcs.length : Int) ≤ 1000000 ∧ (r.signs.length : Int) ≤ 1000000) : Cal Try.prog 33 [.slice aa la.length ca, .slice ab lb.length cb] w (fun v w' => v = .bool (decide (la.map prC = lb.map prC)) ∧ Ext w w') := by
 have hE : Out 0 0 w w := Out.refl _ _ w
 refine enter Try.func33 rfl Try.ntmps33 rfl ?_
 refine wp_seq ?_
 refine rg ?_
 refine st (asB rfl) ?_
 refine rg_end ?_
 refine n_then ?_
 refine wp_seq ?_
 refine wp_seq ?_
 refine rg ?_
 refine st (mvS rfl) ?_
 refine st (y_len Try.underlying30 rfl) ?_
 refine st (mvS rfl) ?_
 refine st (y_len Try.underlying30 rfl) ?_
 refine st (y_neq rfl rfl) ?_
 refine rg_end ?_
 refine n_then ?_
 refine cnd rfl (fun hc0 => ?_) (fun hc0 => ?_)
 ·
  try simp only [nm] at hc0
  have hne : ¬ la.map prC = lb.map prC := fun h => by have h2 := congrArg List.length h; simp at h2; omega
  refine wp_seq ?_
  refine rg ?_
  refine st (asB rfl) ?_
  refine rg_end ?_
  refine n_then ?_
  refine wp_ret ?_
  refine r_then (ret1 (v := (.bool _)) Try.results33 rfl ?_)
  exact ⟨vb (by simp [hne]), hE⟩
 ·
  try simp only [nm] at hc0
  have hlen : la.length = lb.length := by omega
  refine wp_skip ?_
  refine n_then ?_
  refine wp_seq ?_
  refine wp_seq ?_
  refine rg ?_
  refine st (mvS rfl) ?_
  refine st (y_len Try.underlying30 rfl) ?_
  refine st (mvI rfl) ?_
  refine rg_end ?_
  refine n_then ?_
  refine wp_block ?_
  refine lp (γ := Nat) [4, 5, 13, 14, 15, 16, 17, 18, 19, 20, 21, 22, 23, 24, 25, 26] (fun k => [(13, .int .i64 (k : Int))]) (fun k w_ => Ext w w_ ∧ (k : Int) ≤ la.length ∧ ∀ q : Nat, q < k → prC (el la (q : Int)) = prC (el lb (q : Int))) (fun k => la.length - k) 0 ⟨rfl, trivial⟩ ⟨Out.refl _ _ _, by omega, fun q hq => by omega⟩ ?_
  rintro k hav_ w1 ⟨ho2, hk, hall⟩
  have hlp0 := ho2
  have hz3 := ho2.size
  replace hA := hA.ext ho2
  replace hB := hB.ext ho2
  replace hE := hE.step ho2 (.inl (Nat.le_refl _))
  refine wp_seq ?_
  refine rg ?_
  refine st (y_lss rfl rfl) ?_
  refine rg_end ?_
  refine n_then ?_
  refine wp_seq ?_
  refine cnd rfl (fun hc1 => ?_) (fun hc1 => ?_)
  ·
   try simp only [nm] at hc1
   have hmA := el_mem (l := la) (i := (k : Int)) (by omega) hc1
   have hmB := el_mem (l := lb) (i := (k : Int)) (by omega) (by omega)
   have hlk := hln _ hmA
   refine wp_skip ?_
   refine n_then ?_
   refine wp_seq ?_
   refine wp_block ?_
   refine wp_seq ?_
   refine rg ?_
   refine st (mvI rfl) ?_
   refine st (asI rfl) ?_
   refine rg_end ?_
   refine n_then ?_
   refine wp_seq ?_
   refine rgD 8 (fun w_ => Ext w1 w_) (fun i => false) mixed (by kernel_rfl) ?_
   intro w4 ho5 hs6
   refine ⟨ho5, ?_⟩
   have hx7 := ho5
   refine tn rfl (fun _ hG => mvS rfl) ?_
   refine tn rfl (fun _ hG => mvI rfl) ?_
   refine tn rfl (fun _ hG => y_ix (hA.tb.ext hG) sl30 rfl (rfl) rfl (by omega) (by omega)) ?_
   refine tn rfl (fun _ hG => y_lw (hA.tb.ext hG) agg37 rfl (by omega) (by omega)) ?_
   refine tn rfl (fun _ hG => mvS rfl) ?_
   refine tn rfl (fun _ hG => mvI rfl) ?_
   refine tn rfl (fun _ hG => y_ix (hB.tb.ext hG) sl30 rfl (rfl) rfl (by omega) (by omega)) ?_
   refine tn rfl (fun _ hG => y_lw (hB.tb.ext hG) agg37 rfl (by omega) (by omega)) ?_
   refine t_end ?_
   have hz8 := hx7.size
   replace hA := hA.ext hx7
   replace hB := hB.ext hx7
   replace hE := hE.step hx7 (.inl (Nat.le_refl _))
   replace hlp0 := hlp0.step hx7 (.inl (Nat.le_refl _))
   refine sc cl64 (keep_SameCycle_ok (el la (k : Int)).arcs (el la (k : Int)).signs _ _ _ _ _ _ _ _ (el lb (k : Int)).arcs (el lb (k : Int)).signs _ _ _ _ _ _ _ _ _ (hA.row _ hmA).1 (hA.row _ hmA).2 (hB.row _ hmB).1 (hB.row _ hmB).2 hlk.1 hlk.2) rfl ?_
   rintro v13 w9 ⟨rfl, ho10⟩
   have hz14 := ho10.size
   replace hA := hA.ext ho10
   replace hB := hB.ext ho10
   replace hE := hE.step ho10 (.inl (Nat.le_refl _))
   replace hlp0 := hlp0.step ho10 (.inl (Nat.le_refl _))
   refine st (y_not rfl) ?_
   refine rg_end ?_
   refine n_then ?_
   refine cnd rfl (fun hc2 => ?_) (fun hc2 => ?_)
   ·
    try simp only [nm] at hc2
    have hne : ¬ la.map prC = lb.map prC := fun h => by
      have e1 : el (la.map prC) (k : Int) = prC (el la (k : Int)) := elMapC (by omega) hc1
      have e2 : el (lb.map prC) (k : Int) = prC (el lb (k : Int)) := elMapC (by omega) (by omega)
      rw [h, e2] at e1
      exact hc2 e1.symm
    refine wp_seq ?_
    refine rg ?_
    refine st (asB rfl) ?_
    refine rg_end ?_
    refine n_then ?_
    refine wp_ret ?_
    refine r_blk (r_then (r_then (r_blk (r_then (ret1 (v := (.bool _)) Try.results33 rfl ?_)))))
    exact ⟨vb (by simp [hne]), hE⟩
   ·
    try simp only [nm] at hc2
    have hall1 : ∀ q : Nat, q < k + 1 → prC (el la (q : Int)) = prC (el lb (q : Int)) := fun q hq => by
      by_cases e : q = k
      · subst e; exact hc2
      · exact hall q (by omega)
    refine wp_skip ?_
    refine n_blk ?_
    refine n_then ?_
    refine rg ?_
    refine st (y_add rfl rfl (by omega)) ?_
    refine st (mvI rfl) ?_
    refine rg_end ?_
    exact n_then ⟨k + 1, _, rfl, same_lk rfl (same_h0), ⟨rfl, trivial⟩, ⟨hlp0, by omega, hall1⟩, by first | omega | (dsimp only; omega)⟩
  ·
   try simp only [nm] at hc1
   have heq : la.map prC = lb.map prC := extEl (by simp; omega) (fun i i0 i1 => by
     rw [List.length_map] at i1
     have e1 : el (la.map prC) i = prC (el la i) := elMapC i0 i1
     have e2 : el (lb.map prC) i = prC (el lb i) := elMapC i0 (by omega)
     rw [e1, e2]
     have := hall i.toNat (by omega)
     rwa [Int.toNat_of_nonneg i0] at this)
   refine wp_exit ?_
   refine e_then (e_then (e_blk (?_)))
   refine n_then ?_
   refine wp_seq ?_
   refine rg ?_
   refine st (asB rfl) ?_
   refine rg_end ?_
   refine n_then ?_
   refine wp_ret ?_
   refine ret1 (v := (.bool _)) Try.results33 rfl ?_
   exact ⟨vb (by simp [heq]), hE⟩

/-- The sum over a way. -/
def wsum (vals : List Int) : List (Int × Int) → Int
  | [] => 0
  | p :: r => p.2 * el vals p.1 + wsum vals r
theorem wsum_snoc (vals : List Int) : ∀ (l : List (Int × Int)) (p : Int × Int), wsum vals (l ++ [p]) = wsum vals l + p.2 * el vals p.1
  | [], p => by simp [wsum]
  | q :: r, p => by rw [List.cons_append, wsum, wsum, wsum_snoc vals r p]; omega
theorem totC_wsum (vals : List Int) (l : List (Int × Int)) : ∀ k : Nat, k ≤ l.length → totC (l.map Prod.fst) (l.map Prod.snd) vals k = wsum vals (l.take k)
  | 0, _ => by simp [totC, wsum]
  | k + 1, hk => by
    rw [totC, totC_wsum vals l k (by omega), tkS (l := l) (k := k) (by omega), wsum_snoc]
    have e1 : el (l.map Prod.snd) (k : Int) = (el l (k : Int)).2 := by simp [el, show k < l.length by omega]
    have e2 : el (l.map Prod.fst) (k : Int) = (el l (k : Int)).1 := by simp [el, show k < l.length by omega]
    rw [e1, e2]
theorem wa_mod {N : Net} {S vals p : List Int} (hd : ∀ a ∈ S, (el p (el N.acts a).tt - el p (el N.acts a).fr - el vals a) % N.p = 0) : ∀ {l : List (Int × Int)} {x y : Int}, Wa N S x l y → (wsum vals l - (el p y - el p x)) % N.p = 0
  | [], x, y, h => by cases h; simp [wsum]
  | q :: r, x, y, h => by
    obtain ⟨h1, h2, h3, h4⟩ := h
    have ih := wa_mod hd h4
    have h5 := hd q.1 h1
    have key : (q.2 * el vals q.1 - (el p (cyEn N q.1 q.2) - el p x)) % N.p = 0 := by
      rw [← h3]
      rcases h2 with s | s <;> rw [s]
      · have e1 : cyEn N q.1 1 = (el N.acts q.1).tt := by unfold cyEn; rw [if_neg (by decide)]
        have e2 : cySt N q.1 1 = (el N.acts q.1).fr := by unfold cySt; rw [if_neg (by decide)]
        rw [e1, e2]
        have := Int.dvd_neg.2 (Int.dvd_of_emod_eq_zero h5)
        refine Int.emod_eq_zero_of_dvd ?_
        rwa [show -(el p (el N.acts q.1).tt - el p (el N.acts q.1).fr - el vals q.1) = 1 * el vals q.1 - (el p (el N.acts q.1).tt - el p (el N.acts q.1).fr) by omega] at this
      · have e1 : cyEn N q.1 (-1) = (el N.acts q.1).fr := by unfold cyEn; rw [if_pos (by decide)]
        have e2 : cySt N q.1 (-1) = (el N.acts q.1).tt := by unfold cySt; rw [if_pos (by decide)]
        rw [e1, e2]
        rwa [show -1 * el vals q.1 - (el p (el N.acts q.1).fr - el p (el N.acts q.1).tt) = el p (el N.acts q.1).tt - el p (el N.acts q.1).fr - el vals q.1 by omega]
    have := Int.dvd_add (Int.dvd_of_emod_eq_zero key) (Int.dvd_of_emod_eq_zero ih)
    refine Int.emod_eq_zero_of_dvd ?_
    rwa [show q.2 * el vals q.1 - (el p (cyEn N q.1 q.2) - el p x) + (wsum vals r - (el p y - el p (cyEn N q.1 q.2))) = wsum vals (q :: r) - (el p y - el p x) by rw [wsum]; omega] at this

theorem pa_start {N : Net} {tree : List Int} {rk : Int → Nat} {x y : Int} {arcs signs xs : List Int} (h : Pa N tree rk x y arcs signs xs) (e : x = y) : arcs = [] := by
  have hl := h.len
  rcases Nat.eq_zero_or_pos arcs.length with c | c
  · exact List.eq_nil_of_length_eq_zero c
  · have := h.rkm 0 arcs.length c (by omega)
    rw [show ((0 : Nat) : Int) = 0 from rfl, h.x0, h.xl, e] at this; omega
/-- The sum over a way tells the time. -/
theorem pot_way {N : Net} {tree vals p : List Int} {rk : Int → Nat} {f i : Nat} {arcs signs xs : List Int} (hN : NetOk N) (hp : PotOk N tree vals p) (hf : fstB (conB (tree.map (el N.acts))) f = true) (hfn : f < N.evs.length) (hi : i < N.evs.length) (h : Pa N tree rk (f : Int) (i : Int) arcs signs xs) : totC arcs signs vals arcs.length % N.p = el p (i : Int) := by
  have hw := h.wa
  have hs := wa_mod hp.dif hw
  have e := totC_wsum vals (arcs.zip signs) (arcs.zip signs).length (Nat.le_refl _)
  have hl : (arcs.zip signs).length = arcs.length := by rw [List.length_zip, h.slen]; omega
  rw [zip_fst h.slen, zip_snd h.slen, List.take_length, hl] at e
  rw [e]
  rw [hp.fst f hfn hf] at hs
  have r := hp.rng (i : Int) (by omega) (by omega)
  have h1 := Int.emod_emod_of_dvd (wsum vals (arcs.zip signs)) (Int.dvd_refl N.p)
  have h2 : wsum vals (arcs.zip signs) % N.p = el p (i : Int) % N.p := Int.emod_eq_emod_iff_emod_sub_eq_zero.2 (by rwa [Int.sub_zero] at hs)
  rw [h2, Int.emod_eq_of_lt r.1 r.2]
theorem rem_pos {a m : Int} (hm : 0 < m) : (if a.tmod m < 0 then a.tmod m + m else a.tmod m) = a % m := by
  by_cases h : 0 ≤ a
  · rw [Int.tmod_eq_emod_of_nonneg h, if_neg (by have := Int.emod_nonneg a (b := m) (by omega); omega)]
  · have e : a.tmod m = -((-a) % m) := by rw [← Int.tmod_eq_emod_of_nonneg (show 0 ≤ -a by omega), Int.neg_tmod, Int.neg_neg]
    have h0 := Int.emod_nonneg (-a) (b := m) (by omega)
    have h1 := Int.emod_lt_of_pos (-a) hm
    rw [e]
    by_cases c : (-a) % m = 0
    · rw [c]
      have : m ∣ a := by have := Int.dvd_of_emod_eq_zero c; rwa [Int.dvd_neg] at this
      rw [Int.emod_eq_zero_of_dvd this]; simp
    · rw [if_pos (by omega)]
      have h2 : (-((-a) % m) + m) % m = a % m := by
        rw [Int.add_emod_right]
        refine Int.emod_eq_emod_iff_emod_sub_eq_zero.2 (Int.emod_eq_zero_of_dvd ?_)
        have := Int.emod_add_mul_ediv (-a) m
        exact ⟨(-a) / m, by omega⟩
      have h3 := Int.emod_eq_of_lt (a := -((-a) % m) + m) (b := m) (by omega) (by omega)
      rw [h3] at h2
      exact h2

theorem fo_con {N : Net} {tree : List Int} (h : FoOk N tree) : conB (tree.map (el N.acts)) = conB N.acts := by
  funext x y
  rw [Bool.eq_iff_iff]
  constructor
  · intro hc
    refine con_sub (fun a ha => ?_) hc
    obtain ⟨t, ht, rfl⟩ := List.mem_map.1 ha
    have hr := h.mem t ht
    exact con_mem (el_mem hr.1 hr.2)
  · intro hc
    refine con_sub (fun a ha => ?_) hc
    obtain ⟨i, hi, rfl⟩ := List.getElem_of_mem ha
    have := h.span i hi
    simpa [el, hi] using this
/-- The first event with the same number is the first one of the component. -/
theorem first_of {n : Nat} {K : Int → Int → Bool} {c : List Int} {f k : Nat} (hK : EqK K) (hc : CompTo n K n c) (hk : k < n) (hfk : f ≤ k) (h1 : el c (f : Int) = el c (k : Int)) (h2 : ∀ j : Nat, j < f → el c (j : Int) ≠ el c (k : Int)) : fstB K f = true ∧ K (f : Int) (k : Int) = true := by
  obtain ⟨g, g1, g2, g3⟩ := fst_ex K hK k
  have hg : el c (g : Int) = el c (k : Int) := by
    by_cases e : g = k
    · rw [e]
    · exact (hc.again k g hk (by omega) g3).symm
  have hfg : f = g := by
    rcases Nat.lt_trichotomy f g with q | q | q
    · exact absurd (h1.trans hg.symm) ((hc.differs (by omega)).1 g2 f q)
    · exact q
    · exact absurd hg (h2 g q)
  subst hfg
  exact ⟨g2, g3⟩
theorem pa_cya {N : Net} {tree : List Int} {rk : Int → Nat} {x y : Int} {arcs signs xs : List Int} (h : Pa N tree rk x y arcs signs xs) (htm : ∀ a ∈ tree, 0 ≤ a ∧ a < N.acts.length) : CyA N arcs signs arcs.length := by
  refine ⟨fun q hq => ?_, fun i j hij hj => ?_⟩
  · obtain ⟨h1, h2, _⟩ := h.stp q hq
    exact ⟨(htm _ h1).1, (htm _ h1).2, h2⟩
  · have hnd := h.nodup
    rw [List.nodup_iff_pairwise_ne, List.pairwise_iff_getElem] at hnd
    have := hnd i j (by omega) hj hij
    simpa [el, hj, show i < arcs.length by omega] using this

set_option maxHeartbeats 4000000 in
set_option maxRecDepth 100000 in
theorem ref11_Potentials_ok (N : Net) (A : NetA) (lo hi : Nat) (tree : List Int) (at_ : Option Addr) (ct lt ht : Nat) (vals : List Int) (av : Option Addr) (cv lv hv_ : Nat) (w : World) (hN : NetIn lo hi w N A) (hT : Ints lt ht w at_ tree) (htn : (tree.length : Int) ≤ 9223372036854775807) (hV : Ints lv hv_ w av vals) (hvn : (vals.length : Int) ≤ 9223372036854775807)  : Cal Try.prog 65 [netV N A, .slice at_ tree.length ct, .slice av vals.length cv] w (fun v w' => ∃ ad c q e, v = .tuple #[.slice ad q.length c, .int .i64 e] ∧ Ints w.heap.size w'.heap.size w' ad q ∧ (¬ FoOk N tree → q = [] ∧ e = 1) ∧ (FoOk N tree → inR N vals = false → q = [] ∧ e = 4) ∧ (FoOk N tree → inR N vals = true → e = 0 ∧ ∀ p, PotOk N tree vals p → q = p) ∧ Ext w w') := by
 replace hN := hN.full
 replace hT := Ints.full hT
 replace hV := Ints.full hV
 have hE : Out 0 0 w w := Out.refl _ _ w
 refine enter Try.func65 rfl Try.ntmps65 rfl ?_
 refine wp_seq ?_
 refine rg ?_
 refine sd (d_boxA rfl ?_)
 intro b3 w1 hbb3 hs3 ho2 hb3
 have hz4 := ho2.size
 replace hN := hN.ext ho2
 replace hT := hT.ext ho2
 replace hV := hV.ext ho2
 replace hE := hE.step ho2 (.inl (Nat.le_refl _))
 refine st (asS rfl) ?_
 refine st (asI rfl) ?_
 refine rg_end ?_
 refine n_then ?_
 refine wp_seq ?_
 refine wp_seq ?_
 refine rg ?_
 refine st (y_lbN hb3 agg26 rfl) ?_
 refine st (mvS rfl) ?_
 refine sc cl29 (ref11_Forest_ok N A _ _ tree _ _ _ _ _ hN hT htn) rfl ?_
 rintro v9 w5 ⟨b, rfl, hb, ho6⟩
 have hz10 := ho6.size
 replace hN := hN.ext ho6
 replace hT := hT.ext ho6
 replace hV := hV.ext ho6
 replace hE := hE.step ho6 (.inl (Nat.le_refl _))
 replace hb3 := hb3.ext ho6
 refine st (y_not rfl) ?_
 refine rg_end ?_
 refine n_then ?_
 refine cnd rfl (fun hc0 => ?_) (fun hc0 => ?_)
 ·
  try simp only [nm] at hc0
  have hno : ¬ FoOk N tree := fun h => by rw [hb.2 h] at hc0; cases hc0
  refine wp_seq ?_
  refine rg ?_
  refine st (asS rfl) ?_
  refine st (asI rfl) ?_
  refine rg_end ?_
  refine n_then ?_
  refine wp_ret ?_
  refine r_then (ret2 (v := (.slice _ _ _)) (v' := (.int .i64 _)) Try.results65 rfl rfl ?_)
  exact ⟨none, 0, [], 1, rfl, nilS0, fun _ => ⟨rfl, rfl⟩, fun h => absurd h hno, fun h => absurd h hno, hE⟩
 ·
  try simp only [nm] at hc0
  have hfo := hb.1 hc0
  have hok := hfo.ok
  have hev := hok.ev
  have hac := hok.ac
  have hp2 := hok.p2
  have hp7 := hok.p7
  have htm := hfo.mem
  have hKc := fo_con hfo
  refine wp_skip ?_
  refine n_then ?_
  refine wp_seq ?_
  refine wp_seq ?_
  refine rg ?_
  refine st (y_lbN hb3 agg26 rfl) ?_
  refine st (mvS rfl) ?_
  refine sc cl43 (ref11_Values_ok N A _ _ vals _ _ _ _ _ hN hV hvn) rfl ?_
  rintro v15 w11 ⟨rfl, ho12⟩
  have hz16 := ho12.size
  replace hN := hN.ext ho12
  replace hT := hT.ext ho12
  replace hV := hV.ext ho12
  replace hE := hE.step ho12 (.inl (Nat.le_refl _))
  replace hb3 := hb3.ext ho12
  refine st (y_not rfl) ?_
  refine rg_end ?_
  refine n_then ?_
  refine cnd rfl (fun hc1 => ?_) (fun hc1 => ?_)
  ·
   try simp only [nm] at hc1
   refine wp_seq ?_
   refine rg ?_
   refine st (asS rfl) ?_
   refine st (asI rfl) ?_
   refine rg_end ?_
   refine n_then ?_
   refine wp_ret ?_
   refine r_then (ret2 (v := (.slice _ _ _)) (v' := (.int .i64 _)) Try.results65 rfl rfl ?_)
   exact ⟨none, 0, [], 4, rfl, nilS0, fun h => absurd hfo h, fun _ _ => ⟨rfl, rfl⟩, fun _ h => (by rw [hc1] at h; cases h), hE⟩
  ·
   try simp only [nm] at hc1
   obtain ⟨v1, v2⟩ := inR_iff.1 hc1
   refine wp_skip ?_
   refine n_then ?_
   refine wp_seq ?_
   refine rg ?_
   refine st (y_lbN hb3 agg26 rfl) ?_
   refine sc cl34 (ref11_Components_ok N A _ _ _ hN) rfl ?_
   rintro v21 w17 ⟨ac_, cc_, c, rfl, hC, _, hcc, ho18⟩
   replace hcc := hcc (netOk_iff.2 hok)
   have hcl := hcc.len
   have hz22 := ho18.size
   replace hN := hN.ext ho18
   replace hT := hT.ext ho18
   replace hV := hV.ext ho18
   replace hE := hE.step ho18 (.inl (Nat.le_refl _))
   replace hb3 := hb3.ext ho18
   refine st (asS rfl) ?_
   refine rg_end ?_
   refine n_then ?_
   refine wp_seq ?_
   refine rg ?_
   refine st (y_fld fld26_1 rfl) ?_
   refine st (y_lb hb3 na23 rfl rfl) ?_
   refine st (y_len Try.underlying23 rfl) ?_
   refine sd (d_make (m := N.evs.length) (lo := w17.heap.size) (enc := Wk.encI) (e0 := (0 : Int)) sl22 info3 (fun _ => rfl) rfl rfl rfl (by omega) (by unfold maxLen; omega) (by omega) ?_)
   intro bo w23 hbbo hs25 ho24 hO
   have hz27 := ho24.size
   replace hN := hN.ext ho24
   replace hT := hT.ext ho24
   replace hV := hV.ext ho24
   replace hE := hE.step ho24 (.inl (Nat.le_refl _))
   replace hb3 := hb3.ext ho24
   replace hC := hC.ext ho24
   refine st (asS rfl) ?_
   refine rg_end ?_
   refine n_then ?_
   refine wp_seq ?_
   refine wp_seq ?_
   refine rg ?_
   refine st (mvS rfl) ?_
   refine st (y_len Try.underlying22 rfl) ?_
   refine st (mvI rfl) ?_
   refine rg_end ?_
   refine n_then ?_
   refine wp_block ?_
   refine lp (γ := Nat × List Int) [10, 11, 12, 13, 14, 15, 16, 17, 34, 35, 36, 37, 38, 39, 40, 41, 42, 43, 44, 45, 46, 47, 48, 49, 50, 51, 52, 53, 54, 55, 56, 57, 58, 59, 60, 61, 62, 63, 64, 65, 66, 67, 68, 69, 70, 71, 72, 73, 74, 75, 76, 77, 78, 79, 80, 81, 82, 83, 84, 85, 86, 87, 88, 89, 90, 91, 92, 93, 94, 95, 96, 97, 98, 99, 100, 101] (fun ⟨k, O⟩ => [(34, .int .i64 (k : Int))]) (fun ⟨k, O⟩ w_ => Out bo (bo + 1) w23 w_ ∧ k ≤ N.evs.length ∧ O.length = N.evs.length ∧ (∀ p, PotOk N tree vals p → ∀ j : Nat, j < k → el O (j : Int) = el p (j : Int)) ∧ Ow 3 Wk.encI 1 bo (bo + 1) w_ (some ⟨bo, 0, none⟩) N.evs.length O) (fun ⟨k, O⟩ => N.evs.length - k) (0, _) ⟨rfl, trivial⟩ ⟨Out.refl _ _ _, by omega, by simp, (fun p hp j hj => by omega), hO.lower (by omega)⟩ ?_
   rintro ⟨k, O⟩ hav_ w28 ⟨ho29, hk, hOl, hout, hO⟩
   have hlp0 := ho29
   have hz30 := ho29.size
   replace hN := hN.out ho29 (by first | omega | (simp only [blk_some, hi1_some] at *; omega))
   replace hT := hT.out ho29 (by first | omega | (simp only [blk_some, hi1_some] at *; omega))
   replace hV := hV.out ho29 (by first | omega | (simp only [blk_some, hi1_some] at *; omega))
   replace hE := hE.step ho29 (by first | omega | (simp only [blk_some, hi1_some] at *; omega))
   replace hb3 := hb3.out ho29 (by first | omega | (simp only [blk_some, hi1_some] at *; omega))
   replace hC := hC.out ho29 (by first | omega | (simp only [blk_some, hi1_some] at *; omega))
   refine wp_seq ?_
   refine rg ?_
   refine st (y_lss rfl rfl) ?_
   refine rg_end ?_
   refine n_then ?_
   refine wp_seq ?_
   refine cnd rfl (fun hc2 => ?_) (fun hc2 => ?_)
   ·
    try simp only [nm] at hc2
    refine wp_skip ?_
    refine n_then ?_
    refine wp_seq ?_
    refine wp_block ?_
    refine wp_seq ?_
    refine rg ?_
    refine st (mvI rfl) ?_
    refine st (asI rfl) ?_
    refine rg_end ?_
    refine n_then ?_
    refine wp_seq ?_
    refine rg ?_
    refine st (mvI rfl) ?_
    refine st (asI rfl) ?_
    refine rg_end ?_
    refine n_then ?_
    refine wp_seq ?_
    refine wp_seq ?_
    refine rg ?_
    refine st (asI rfl) ?_
    refine rg_end ?_
    refine n_then ?_
    refine wp_block ?_
    refine lp (γ := Nat × Nat) [11, 12, 38, 39, 40, 41, 42, 43, 44, 45, 46, 47, 48, 49, 50, 51, 52, 53, 54, 55, 56, 57] (fun ⟨q, f⟩ => [(12, .int .i64 (q : Int)), (11, .int .i64 (f : Int))]) (fun ⟨q, f⟩ w_ => Ext w28 w_ ∧ q ≤ k ∧ ((f = k ∧ ∀ j : Nat, j < q → el c (j : Int) ≠ el c (k : Int)) ∨ (f < q ∧ el c (f : Int) = el c (k : Int) ∧ ∀ j : Nat, j < f → el c (j : Int) ≠ el c (k : Int)))) (fun ⟨q, f⟩ => k - q) (0, k) ⟨rfl, rfl, trivial⟩ ⟨Out.refl _ _ _, by omega, .inl ⟨rfl, fun j hj => by omega⟩⟩ ?_
    rintro ⟨q, f⟩ hav_ w31 ⟨ho32, hq, hfi⟩
    have hlp1 := ho32
    have hz33 := ho32.size
    replace hN := hN.ext ho32
    replace hT := hT.ext ho32
    replace hV := hV.ext ho32
    replace hE := hE.step ho32 (.inl (Nat.le_refl _))
    replace hb3 := hb3.ext ho32
    replace hC := hC.ext ho32
    replace hO := hO.ext ho32
    replace hlp0 := hlp0.step ho32 (.inl (Nat.le_refl _))
    refine wp_seq ?_
    refine wp_seq ?_
    refine rg ?_
    refine st (mvI rfl) ?_
    refine st (mvI rfl) ?_
    refine st (y_lss rfl rfl) ?_
    refine rg_end ?_
    refine n_then ?_
    refine cnd rfl (fun hc3 => ?_) (fun hc3 => ?_)
    ·
     try simp only [nm] at hc3
     refine wp_skip ?_
     refine n_then ?_
     refine wp_seq ?_
     refine wp_block ?_
     refine wp_seq ?_
     refine rgD 12 (fun w_ => Ext w31 w_) (fun i => false) mixed (by kernel_rfl) ?_
     intro w34 ho35 hs36
     refine ⟨ho35, ?_⟩
     have hx37 := ho35
     refine tn rfl (fun _ hG => mvS rfl) ?_
     refine tn rfl (fun _ hG => mvI rfl) ?_
     refine tn rfl (fun _ hG => y_ix (hC.ext hG) sl22 rfl (rfl) rfl (by omega) (by omega)) ?_
     refine tn rfl (fun _ hG => y_le (hC.ext hG) na3 rfl (by omega) (by omega) rfl) ?_
     refine tn rfl (fun _ hG => mvS rfl) ?_
     refine tn rfl (fun _ hG => mvI rfl) ?_
     refine tn rfl (fun _ hG => y_ix (hC.ext hG) sl22 rfl (rfl) rfl (by omega) (by omega)) ?_
     refine tn rfl (fun _ hG => y_le (hC.ext hG) na3 rfl (by omega) (by omega) rfl) ?_
     refine tn rfl (fun _ hG => y_eql rfl rfl) ?_
     refine tn rfl (fun _ hG => mvB rfl) ?_
     refine gspT 52 rfl (fun hg38 => ?_) (fun hg38 => ?_)
     ·
      have hg38n := hg38; try simp only [nm] at hg38n
      refine tng rfl rfl rfl hg38 (fun _ hG => mvI rfl) ?_
      refine tng rfl rfl rfl hg38 (fun _ hG => mvI rfl) ?_
      refine t_end ?_
      have hz39 := hx37.size
      replace hN := hN.ext hx37
      replace hT := hT.ext hx37
      replace hV := hV.ext hx37
      replace hE := hE.step hx37 (.inl (Nat.le_refl _))
      replace hb3 := hb3.ext hx37
      replace hC := hC.ext hx37
      replace hO := hO.ext hx37
      replace hlp0 := hlp0.step hx37 (.inl (Nat.le_refl _))
      replace hlp1 := hlp1.step hx37 (.inl (Nat.le_refl _))
      refine stg rfl rfl hg38 (y_lss rfl rfl) ?_
      refine st (y_pickT rfl hg38 (v := .bool _) rfl) ?_
      refine rg_end ?_
      refine n_then ?_
      refine cnd rfl (fun hc4 => ?_) (fun hc4 => ?_)
      ·
       try simp only [nm] at hc4
       have hfi1 : (q = k ∧ ∀ j : Nat, j < q + 1 → el c (j : Int) ≠ el c (k : Int)) ∨ (q < q + 1 ∧ el c (q : Int) = el c (k : Int) ∧ ∀ j : Nat, j < q → el c (j : Int) ≠ el c (k : Int)) := by
         refine .inr ⟨by omega, by simp_all, fun j hj => ?_⟩
         rcases hfi with ⟨e, h⟩ | ⟨h1, h2, h3⟩
         · exact h j hj
         · omega
       refine rg ?_
       refine st (mvI rfl) ?_
       refine st (asI rfl) ?_
       refine rg_end ?_
       refine n_blk ?_
       refine n_then ?_
       refine rg ?_
       refine st (mvI rfl) ?_
       refine st (y_add rfl rfl (by omega)) ?_
       refine st (asI rfl) ?_
       refine rg_end ?_
       exact n_then ⟨(q + 1, _), _, rfl, same_lk rfl (same_h0), ⟨rfl, rfl, trivial⟩, ⟨hlp1, by omega, hfi1⟩, by first | omega | (dsimp only; omega)⟩
      ·
       try simp only [nm] at hc4
       have hfi1 : (f = k ∧ ∀ j : Nat, j < q + 1 → el c (j : Int) ≠ el c (k : Int)) ∨ (f < q + 1 ∧ el c (f : Int) = el c (k : Int) ∧ ∀ j : Nat, j < f → el c (j : Int) ≠ el c (k : Int)) := by
         rcases hfi with ⟨e, h⟩ | ⟨h1, h2, h3⟩
         · refine .inl ⟨e, fun j hj => ?_⟩
           by_cases c1_ : j = q
           · subst c1_
             intro z
             first
             | exact absurd z (by assumption)
             | omega
             | simp_all
           · exact h j (by omega)
         · exact .inr ⟨by omega, h2, h3⟩
       refine wp_skip ?_
       refine n_blk ?_
       refine n_then ?_
       refine rg ?_
       refine st (mvI rfl) ?_
       refine st (y_add rfl rfl (by omega)) ?_
       refine st (asI rfl) ?_
       refine rg_end ?_
       exact n_then ⟨(q + 1, _), _, rfl, same_lk rfl (same_h0), ⟨rfl, rfl, trivial⟩, ⟨hlp1, by omega, hfi1⟩, by first | omega | (dsimp only; omega)⟩
     ·
      have hg38n := hg38; try simp only [nm] at hg38n
      refine tns rfl rfl hg38 ?_
      refine tns rfl rfl hg38 ?_
      refine t_end ?_
      have hz40 := hx37.size
      replace hN := hN.ext hx37
      replace hT := hT.ext hx37
      replace hV := hV.ext hx37
      replace hE := hE.step hx37 (.inl (Nat.le_refl _))
      replace hb3 := hb3.ext hx37
      replace hC := hC.ext hx37
      replace hO := hO.ext hx37
      replace hlp0 := hlp0.step hx37 (.inl (Nat.le_refl _))
      replace hlp1 := hlp1.step hx37 (.inl (Nat.le_refl _))
      refine sts rfl rfl hg38 ?_
      refine st (y_pickF rfl hg38 (v := .bool _) rfl) ?_
      refine rg_end ?_
      refine n_then ?_
      refine cnd rfl (fun hc4 => absurd hc4 (by decide)) (fun hc4 => ?_)
      have hfi1 : (f = k ∧ ∀ j : Nat, j < q + 1 → el c (j : Int) ≠ el c (k : Int)) ∨ (f < q + 1 ∧ el c (f : Int) = el c (k : Int) ∧ ∀ j : Nat, j < f → el c (j : Int) ≠ el c (k : Int)) := by
        rcases hfi with ⟨e, h⟩ | ⟨h1, h2, h3⟩
        · refine .inl ⟨e, fun j hj => ?_⟩
          by_cases c1_ : j = q
          · subst c1_
            intro z
            first
            | exact absurd z (by assumption)
            | omega
            | simp_all
          · exact h j (by omega)
        · exact .inr ⟨by omega, h2, h3⟩
      refine wp_skip ?_
      refine n_blk ?_
      refine n_then ?_
      refine rg ?_
      refine st (mvI rfl) ?_
      refine st (y_add rfl rfl (by omega)) ?_
      refine st (asI rfl) ?_
      refine rg_end ?_
      exact n_then ⟨(q + 1, _), _, rfl, same_lk rfl (same_h0), ⟨rfl, rfl, trivial⟩, ⟨hlp1, by omega, hfi1⟩, by first | omega | (dsimp only; omega)⟩
    ·
     try simp only [nm] at hc3
     have hqk : q = k := by omega
     subst hqk
     have hff : f ≤ q ∧ el c (f : Int) = el c (q : Int) ∧ ∀ j : Nat, j < f → el c (j : Int) ≠ el c (q : Int) := by
       rcases hfi with ⟨e, h⟩ | ⟨h1, h2, h3⟩
       · subst e; exact ⟨Nat.le_refl _, rfl, h⟩
       · exact ⟨by omega, h2, h3⟩
     obtain ⟨hf1, hf2⟩ := first_of (con_eqk _) hcc (by omega) hff.1 hff.2.1 hff.2.2
     rw [← hKc] at hf1 hf2
     have hfq := hff.1
     refine wp_exit ?_
     refine e_then (e_then (e_blk (?_)))
     refine n_then ?_
     refine wp_seq ?_
     refine rg ?_
     refine st (y_lbN hb3 agg26 rfl) ?_
     refine st (mvS rfl) ?_
     refine st (mvI rfl) ?_
     refine st (mvI rfl) ?_
     refine sc cl42 (ref11_path_ok N A _ _ tree _ _ _ _ (f : Int) (q : Int) _ hN hT htn hok htm (by omega) (by omega) (by omega) (by omega) hf2) rfl ?_
     rintro v45 w41 ⟨aa, ca, ag, cg, arcs, signs, xs, rk, rfl, hAr, hGr, hpa, hal, ho42⟩
     have hcya := pa_cya hpa htm
     have hsl := hpa.slen
     have htr := tot_rng hcya hc1
     have hz46 := ho42.size
     replace hN := hN.ext ho42
     replace hT := hT.ext ho42
     replace hV := hV.ext ho42
     replace hE := hE.step ho42 (.inl (Nat.le_refl _))
     replace hb3 := hb3.ext ho42
     replace hC := hC.ext ho42
     replace hO := hO.ext ho42
     replace hlp0 := hlp0.step ho42 (.inl (Nat.le_refl _))
     refine st (mvT rfl) ?_
     refine st (y_ext rfl rfl) ?_
     refine st (y_ext rfl rfl) ?_
     refine st (y_ext rfl rfl) ?_
     refine st (asS rfl) ?_
     refine st (asS rfl) ?_
     refine st (asB rfl) ?_
     refine rg_end ?_
     refine n_then ?_
     refine wp_seq ?_
     refine rg ?_
     refine st (asI rfl) ?_
     refine rg_end ?_
     refine n_then ?_
     refine wp_seq ?_
     refine wp_seq ?_
     refine rg ?_
     refine st (asI rfl) ?_
     refine rg_end ?_
     refine n_then ?_
     refine wp_block ?_
     refine lp (γ := Nat) [16, 17, 67, 68, 69, 70, 71, 72, 73, 74, 75, 76, 77, 78, 79, 80, 81, 82, 83, 84, 85, 86] (fun r => [(17, .int .i64 (r : Int)), (16, .int .i64 (totC arcs signs vals r))]) (fun r w_ => Ext w41 w_ ∧ r ≤ arcs.length) (fun r => arcs.length - r) 0 ⟨rfl, rfl, trivial⟩ ⟨Out.refl _ _ _, by omega⟩ ?_
     rintro r hav_ w47 ⟨ho48, hr⟩
     have hlp2 := ho48
     have hz49 := ho48.size
     replace hN := hN.ext ho48
     replace hT := hT.ext ho48
     replace hV := hV.ext ho48
     replace hE := hE.step ho48 (.inl (Nat.le_refl _))
     replace hb3 := hb3.ext ho48
     replace hC := hC.ext ho48
     replace hO := hO.ext ho48
     replace hlp0 := hlp0.step ho48 (.inl (Nat.le_refl _))
     replace hAr := hAr.ext ho48
     replace hGr := hGr.ext ho48
     refine wp_seq ?_
     refine wp_seq ?_
     refine rg ?_
     refine st (mvI rfl) ?_
     refine st (mvS rfl) ?_
     refine st (y_len Try.underlying22 rfl) ?_
     refine st (y_lss rfl rfl) ?_
     refine rg_end ?_
     refine n_then ?_
     refine cnd rfl (fun hc5 => ?_) (fun hc5 => ?_)
     ·
      try simp only [nm] at hc5
      obtain ⟨i0, i1, i2⟩ := hcya.rng r (by omega)
      have hv1 := v2 (el arcs (r : Int)).toNat (by omega)
      rw [Int.toNat_of_nonneg i0] at hv1
      have hb0 := htr r (by omega)
      have hpr : -131072 ≤ el signs (r : Int) * el vals (el arcs (r : Int)) ∧ el signs (r : Int) * el vals (el arcs (r : Int)) ≤ 131072 := by rcases i2 with e | e <;> rw [e] <;> omega
      refine wp_skip ?_
      refine n_then ?_
      refine wp_seq ?_
      refine wp_block ?_
      refine rgD 13 (fun w_ => Ext w47 w_) (fun i => false) mixed (by kernel_rfl) ?_
      intro w50 ho51 hs52
      refine ⟨ho51, ?_⟩
      have hx53 := ho51
      refine tn rfl (fun _ hG => mvI rfl) ?_
      refine tn rfl (fun _ hG => mvS rfl) ?_
      refine tn rfl (fun _ hG => mvI rfl) ?_
      refine tn rfl (fun _ hG => y_ix (hGr.ext hG) sl22 rfl (rfl) rfl (by omega) (by omega)) ?_
      refine tn rfl (fun _ hG => y_le (hGr.ext hG) na3 rfl (by omega) (by omega) rfl) ?_
      refine tn rfl (fun _ hG => mvS rfl) ?_
      refine tn rfl (fun _ hG => mvS rfl) ?_
      refine tn rfl (fun _ hG => mvI rfl) ?_
      refine tn rfl (fun _ hG => y_ix (hAr.ext hG) sl22 rfl (rfl) rfl (by omega) (by omega)) ?_
      refine tn rfl (fun _ hG => y_le (hAr.ext hG) na3 rfl (by omega) (by omega) rfl) ?_
      refine tn rfl (fun _ hG => y_ix (hV.ext hG) sl22 rfl (rfl) rfl (by omega) (by omega)) ?_
      refine tn rfl (fun _ hG => y_le (hV.ext hG) na3 rfl (by omega) (by omega) rfl) ?_
      refine tn rfl (fun _ hG => y_mul rfl rfl (by omega)) ?_
      refine t_end ?_
      have hz54 := hx53.size
      replace hN := hN.ext hx53
      replace hT := hT.ext hx53
      replace hV := hV.ext hx53
      replace hE := hE.step hx53 (.inl (Nat.le_refl _))
      replace hb3 := hb3.ext hx53
      replace hC := hC.ext hx53
      replace hO := hO.ext hx53
      replace hlp0 := hlp0.step hx53 (.inl (Nat.le_refl _))
      replace hAr := hAr.ext hx53
      replace hGr := hGr.ext hx53
      replace hlp2 := hlp2.step hx53 (.inl (Nat.le_refl _))
      refine st (y_add rfl rfl (by omega)) ?_
      refine st (asI rfl) ?_
      refine rg_end ?_
      refine n_blk ?_
      refine n_then ?_
      refine rg ?_
      refine st (mvI rfl) ?_
      refine st (y_add rfl rfl (by omega)) ?_
      refine st (asI rfl) ?_
      refine rg_end ?_
      exact n_then ⟨r + 1, _, rfl, same_lk rfl (same_h0), ⟨rfl, rfl, trivial⟩, ⟨hlp2, by omega⟩, by first | omega | (dsimp only; omega)⟩
     ·
      try simp only [nm] at hc5
      have hrr : r = arcs.length := by omega
      subst hrr
      have hb0 := htr arcs.length (Nat.le_refl _)
      have hmm := Int.tmod_lt_of_pos (totC arcs signs vals arcs.length) (show 0 < N.p by omega)
      have hmn := Int.lt_tmod_of_pos (totC arcs signs vals arcs.length) (show 0 < N.p by omega)
      refine wp_exit ?_
      refine e_then (e_then (e_blk (?_)))
      refine n_then ?_
      refine wp_seq ?_
      refine rg ?_
      refine st (mvI rfl) ?_
      refine st (y_fld fld26_0 rfl) ?_
      refine st (y_lb hb3 na3 rfl rfl) ?_
      refine st (y_rem rfl rfl (by omega)) ?_
      refine st (asI rfl) ?_
      refine rg_end ?_
      refine n_then ?_
      refine cut (γ := Unit) [16, 91, 92, 93, 94, 95, 96] (fun _ => [(16, .int .i64 ((totC arcs signs vals arcs.length) % N.p))]) (fun _ w_ => Ext w47 w_ ∧ True) ?_ ?_
      ·
       have hcut := Out.refl 0 0 w47
       refine wp_seq ?_
       refine rg ?_
       refine st (mvI rfl) ?_
       refine st (y_lss rfl rfl) ?_
       refine rg_end ?_
       refine n_then ?_
       refine cnd rfl (fun hc6 => ?_) (fun hc6 => ?_)
       ·
        try simp only [nm] at hc6
        refine rg ?_
        refine st (mvI rfl) ?_
        refine st (y_fld fld26_0 rfl) ?_
        refine st (y_lb hb3 na3 rfl rfl) ?_
        refine st (y_add rfl rfl (by omega)) ?_
        refine st (asI rfl) ?_
        refine rg_end ?_
        exact n_then ⟨(), _, rfl, same_lk rfl (same_rfl), ⟨vi (by have hh := rem_pos (a := (totC arcs signs vals arcs.length)) (m := N.p) (by omega); split at hh <;> omega), trivial⟩, ⟨hcut, trivial⟩⟩
       ·
        try simp only [nm] at hc6
        refine wp_skip ?_
        exact n_then ⟨(), _, rfl, same_lk rfl (same_rfl), ⟨vi (by have hh := rem_pos (a := (totC arcs signs vals arcs.length)) (m := N.p) (by omega); split at hh <;> omega), trivial⟩, ⟨hcut, trivial⟩⟩
      ·
       rintro _ hav_ w55 ⟨ho56, _⟩
       have hz57 := ho56.size
       replace hN := hN.ext ho56
       replace hT := hT.ext ho56
       replace hV := hV.ext ho56
       replace hE := hE.step ho56 (.inl (Nat.le_refl _))
       replace hb3 := hb3.ext ho56
       replace hC := hC.ext ho56
       replace hO := hO.ext ho56
       replace hlp0 := hlp0.step ho56 (.inl (Nat.le_refl _))
       replace hAr := hAr.ext ho56
       replace hGr := hGr.ext ho56
       refine rg ?_
       refine st (mvS rfl) ?_
       refine st (mvI rfl) ?_
       refine st (mvI rfl) ?_
       refine st (y_ix hO.sl sl22 rfl (hOl.symm) rfl (by omega) (by omega)) ?_
       refine sd0 (d_se (j := 0) (e' := ((totC arcs signs vals arcs.length) % N.p)) hO sz3 rfl rfl rfl (by omega) (by omega) (Nat.le_of_ble_eq_true rfl) rfl ?_)
       intro w58 hs60 ho59 hO'
       have hrhO := hO.rng
       clear hO; have hO := hO'; clear hO'
       have hz61 := ho59.size
       replace hN := hN.out ho59 (by first | omega | (simp only [blk_some, hi1_some] at *; omega))
       replace hT := hT.out ho59 (by first | omega | (simp only [blk_some, hi1_some] at *; omega))
       replace hV := hV.out ho59 (by first | omega | (simp only [blk_some, hi1_some] at *; omega))
       replace hE := hE.step ho59 (by first | omega | (simp only [blk_some, hi1_some] at *; omega))
       replace hb3 := hb3.out ho59 (by first | omega | (simp only [blk_some, hi1_some] at *; omega))
       replace hC := hC.out ho59 (by first | omega | (simp only [blk_some, hi1_some] at *; omega))
       replace hlp0 := hlp0.step ho59 (by first | omega | (simp only [blk_some, hi1_some] at *; omega))
       replace hAr := hAr.out ho59 (by first | omega | (simp only [blk_some, hi1_some] at *; omega))
       replace hGr := hGr.out ho59 (by first | omega | (simp only [blk_some, hi1_some] at *; omega))
       have hout1 : ∀ p, PotOk N tree vals p → ∀ j : Nat, j < q + 1 → el (O.set (q : Int).toNat ((totC arcs signs vals arcs.length) % N.p)) (j : Int) = el p (j : Int) := fun p hp j hj => by
         by_cases e : j = q
         · subst e; rw [elSetS (by omega) (by omega)]; exact pot_way hok hp hf1 (by omega) (by omega) hpa
         · rw [elSetN (by omega) (by omega) (by omega)]; exact hout p hp j (by omega)
       refine rg_end ?_
       refine n_blk ?_
       refine n_then ?_
       refine rg ?_
       refine st (y_add rfl rfl (by omega)) ?_
       refine st (mvI rfl) ?_
       refine rg_end ?_
       exact n_then ⟨(q + 1, _), _, rfl, same_lk rfl (same_hav rfl (same_lk rfl (same_hav rfl (same_lk rfl (same_hav rfl (same_lk rfl (same_h0))))))), ⟨rfl, trivial⟩, ⟨hlp0, by omega, by simp [hOl], hout1, hO⟩, by first | omega | (dsimp only; omega)⟩
   ·
    try simp only [nm] at hc2
    have hqe : ∀ p, PotOk N tree vals p → O = p := fun p hp => extEl (by rw [hOl, hp.len]) (fun i i0 i1 => by
      have := hout p hp i.toNat (by omega)
      rwa [Int.toNat_of_nonneg i0] at this)
    refine wp_exit ?_
    refine e_then (e_then (e_blk (?_)))
    refine n_then ?_
    refine wp_seq ?_
    refine rg ?_
    refine st (mvS rfl) ?_
    refine st (asS rfl) ?_
    refine st (asI rfl) ?_
    refine rg_end ?_
    refine n_then ?_
    refine wp_ret ?_
    refine ret2 (v := (.slice _ _ _)) (v' := (.int .i64 _)) Try.results65 rfl rfl ?_
    exact ⟨_, _, O, 0, by rw [hOl], Sl.wide (Ow.sl hO) (by omega) (by omega), fun h => absurd hfo h, fun _ h => (by rw [hc1] at h; cases h), fun _ _ => ⟨rfl, hqe⟩, hE⟩
end Go.Proofs.Ytdgkaahghlbocaa
