/-
  Walks of the functions, printed by a program out of the code and the loops' relations.
-/
import Derived.Test.YteicgnmggkhlbaaWkG
import Derived.Test.YteicgnmggkhlbaaProg
import Derived.KernelRfl
import Derived.Test.YteicgnmggkhlbaaP18
namespace Go.Proofs.Yteicgnmggkhlbaa
open Go.Wk Go.RowKit
set_option linter.unusedVariables false
set_option linter.unusedSimpArgs false
theorem blkT_some {rows : List Pw} {a : List Int} {t : Int} : ∀ {k : Nat} {v : Nat}, v < k → (v : Int) ≠ t → secT rows a (v : Int) = (el (el rows t).st (el a t + 1)).sec → blkT rows a t k ≠ -1
  | 0, v, h, _, _ => by omega
  | k + 1, v, h, h1, h2 => by
    rw [blkT]
    by_cases c : blkT rows a t k = -1 ∧ (k : Int) ≠ t ∧ secT rows a (k : Int) = (el (el rows t).st (el a t + 1)).sec
    · rw [if_pos c]; omega
    · rw [if_neg c]
      by_cases e : v = k
      · subst e
        exact fun q => c ⟨q, h1, h2⟩
      · exact blkT_some (by omega) h1 h2
theorem movB_iff {rows : List Pw} {a : List Int} {t : Nat} : movB rows a (t : Int) = true ↔ el a (t : Int) < (el rows (t : Int)).st.length ∧ (el a (t : Int) + 1 < (el rows (t : Int)).st.length → ∀ v : Nat, v < rows.length → v ≠ t → secT rows a (v : Int) ≠ (el (el rows (t : Int)).st (el a (t : Int) + 1)).sec) := by
  unfold movB blocT
  simp only [Bool.and_eq_true, decide_eq_true_eq]
  refine and_congr_right fun h1 => ?_
  by_cases c : (el rows (t : Int)).st.length ≤ el a (t : Int) + 1
  · rw [if_pos c]
    exact ⟨fun _ h => by omega, fun _ => by omega⟩
  · rw [if_neg c]
    have hr := blkT_rng (rows := rows) (at_ := a) (t := (t : Int)) rows.length
    constructor
    · intro h _ v hv hne e
      exact blkT_some hv (by omega) e (by omega)
    · intro h
      rw [blkT_none (fun v hv hne => h (by omega) v hv (by omega))]; omega
/-- A list without its element 't'. -/
def er {α : Type} (t : Nat) (l : List α) : List α := l.take t ++ l.drop (t + 1)
def sk (t u : Nat) : Nat := if u < t then u else u + 1
theorem er_len {α : Type} {t : Nat} {l : List α} (h : t < l.length) : (er t l).length = l.length - 1 := by simp [er]; omega
theorem er_el {α : Type} [Inhabited α] {t u : Nat} {l : List α} (h : t < l.length) (hu : u + 1 < l.length) : el (er t l) (u : Int) = el l ((sk t u : Nat) : Int) := by
  unfold sk er
  simp only [el, Int.toNat_natCast, List.getD_eq_getElem?_getD]
  by_cases c : u < t
  · rw [if_pos c, List.getElem?_append_left (by simp; omega), List.getElem?_take, if_pos c]
  · rw [if_neg c, List.getElem?_append_right (by simp; omega), List.getElem?_drop]
    congr 2
    simp; omega
theorem sk_ne {t u : Nat} : sk t u ≠ t := by unfold sk; split <;> omega
theorem sk_lt {t u n : Nat} (h : u + 1 < n) : sk t u < n := by unfold sk; split <;> omega
theorem sk_inj {t u v : Nat} (h : sk t u = sk t v) : u = v := by unfold sk at h; split at h <;> split at h <;> omega
theorem sk_sur {t v n : Nat} (hv : v < n) (hne : v ≠ t) (ht : t < n) : ∃ u, u + 1 < n ∧ sk t u = v := by
  by_cases c : v < t
  · exact ⟨v, by omega, by unfold sk; rw [if_pos c]⟩
  · exact ⟨v - 1, by omega, by unfold sk; rw [if_neg (by omega)]; omega⟩
section
variable {rows : List Pw} {a : List Int} {t : Nat}
theorem er_sec (ht : t < rows.length) (hl : a.length = rows.length) {u : Nat} (hu : u + 1 < rows.length) : secT (er t rows) (er t a) (u : Int) = secT rows a ((sk t u : Nat) : Int) := by
  unfold secT; rw [er_el (by omega) (by omega), er_el ht hu]
theorem er_mov (ht : t < rows.length) (hl : a.length = rows.length) {u : Nat} (hu : u + 1 < rows.length) (h : movB rows a ((sk t u : Nat) : Int) = true) : movB (er t rows) (er t a) (u : Int) = true := by
  rw [movB_iff] at h ⊢
  rw [er_el (by omega) (by omega), er_el ht hu]
  refine ⟨h.1, fun h1 v hv hne => ?_⟩
  rw [er_len ht] at hv
  rw [er_sec ht hl (by omega)]
  exact h.2 h1 _ (sk_lt (by omega)) (fun e => hne (sk_inj e))
theorem er_nx (ht : t < rows.length) (hl : a.length = rows.length) {u : Nat} (hu : u + 1 < rows.length) : er t (nxA a (sk t u)) = nxA (er t a) u := by
  have hs := sk_lt (t := t) hu
  refine list_ext_el (by rw [er_len (by rw [nx_len]; omega), nx_len, nx_len, er_len (by omega)]) (fun q hq => ?_)
  rw [er_len (by rw [nx_len]; omega), nx_len] at hq
  rw [er_el (by rw [nx_len]; omega) (by rw [nx_len]; omega)]
  by_cases e : q = u
  · subst e
    rw [nx_t (by omega), nx_t (by rw [er_len (by omega)]; omega), er_el (by omega) (by omega)]
  · rw [nx_u (fun h => e (sk_inj h)), nx_u e, er_el (by omega) (by omega)]
theorem er_nxt (ht : t < a.length) : er t (nxA a t) = er t a := by
  refine list_ext_el (by rw [er_len (by rw [nx_len]; omega), nx_len, er_len ht]) (fun q hq => ?_)
  rw [er_len (by rw [nx_len]; omega), nx_len] at hq
  rw [er_el (by rw [nx_len]; omega) (by rw [nx_len]; omega), nx_u sk_ne, er_el ht (by omega)]
theorem er_left (ht : t < rows.length) (hl : a.length = rows.length) (h : leftB rows a = true) : leftB (er t rows) (er t a) = true := by
  unfold leftB
  rw [List.all_eq_true]
  intro u hu
  have hu := List.mem_range.1 hu
  rw [er_len ht] at hu
  rw [decide_eq_true_eq, er_el ht (by omega), er_el (by omega) (by omega)]
  exact left_el h (sk_lt (by omega))
theorem er_safe (h : Safe rows a) (ht : t < rows.length) (hl : a.length = rows.length) : Safe (er t rows) (er t a) := by
  induction h with
  | done h => exact .done (er_left ht hl h)
  | @step a v hv hm h ih =>
    have ih := ih (by rw [nx_len]; exact hl)
    by_cases e : v = t
    · subst e
      rwa [er_nxt (by omega)] at ih
    · obtain ⟨u, hu, rfl⟩ := sk_sur hv e ht
      rw [er_nx ht hl hu] at ih
      exact .step u (by rw [er_len ht]; omega) (er_mov ht hl hu hm) ih
theorem er_go (h : GoP rows a) (ht : t < rows.length) : GoP (er t rows) (er t a) := by
  have hl := h.len
  refine ⟨by rw [er_len ht, er_len (by omega), hl], fun u hu => ?_⟩
  rw [er_len ht] at hu
  rw [er_el (by omega) (by omega), er_el ht (by omega)]
  exact h.rng _ (sk_lt (by omega))
theorem er_hel (hl : a.length = rows.length) (ht : t < rows.length) (h : ¬ Hel rows a) : ¬ Hel (er t rows) (er t a) := by
  rintro ⟨x, y, hx, hy, h0, e⟩
  rw [er_len ht] at hx
  rw [er_sec ht hl (by omega)] at h0 e
  rw [er_sec ht hl (by omega)] at e
  have := nohel h (sk_lt (t := t) (u := x) (by omega)) (sk_lt (t := t) (u := y) (n := rows.length) (by omega)) h0 e
  have := sk_inj this
  omega
theorem er_row (h : SmP rows) : ∀ r ∈ er t rows, 1 ≤ r.st.length ∧ r.st.length ≤ 4 ∧ RwS r.st := fun r hr => by
  rcases List.mem_append.1 hr with q | q
  · exact h.row r (List.mem_of_mem_take q)
  · exact h.row r (List.mem_of_mem_drop q)
theorem er_tot (h : SmP rows) (ht : t < rows.length) : totT (er t rows) (er t rows).length ≤ 216 := by
  have h1 := tot_le (rows := er t rows) (k := (er t rows).length) (fun i hi => (er_row h _ (el_mem (by omega) (by omega))).2.1)
  have h2 := h.n3
  have h3 := er_len ht
  have h4 : (6 : Int) ^ (er t rows).length ≤ 216 := by
    have : (er t rows).length = 0 ∨ (er t rows).length = 1 ∨ (er t rows).length = 2 := by omega
    rcases this with e | e | e <;> rw [e] <;> decide
  omega
end
/-- Taking a train away keeps a state safe. -/
theorem fewer {rows : List Pw} {at_ l m : List Int} {n n' e e' k k' : Int} {t : Nat} (hsm : SmP rows) (hg : GoP rows at_) (ht : t < rows.length) (hck : CkR rows at_ k) (h : (l, n, e) = srF rows at_ 1048576 k) (he : e = 0) (hck' : CkR (er t rows) (er t at_) k') (h' : (m, n', e') = srF (er t rows) (er t at_) 1048576 k') : e' = 0 := by
  have hl := hg.len
  rcases sr_all hsm hg hck h with ⟨_, _, hnh, hp⟩ | ⟨q, _⟩ | ⟨q, _⟩
  · have hva' : VaP (er t rows) := va_small (by rw [er_len ht]; have := hsm.n3; omega) (er_row hsm)
    have hk := hck'.of hva' (er_go hg ht) (er_hel hl ht hnh)
    rcases sr_safe (er_go hg ht) (er_tot hsm ht) hk h' with ⟨q, _⟩ | ⟨_, q⟩
    · exact q
    · exact absurd (er_safe hp.safe ht hl) q
  · omega
  · omega
theorem el_one {x : Pw} : el [x] (0 : Int) = x := rfl
theorem mov_one {r : Pw} {k : Int} (h : k < r.st.length) : movB [r] [k] ((0 : Nat) : Int) = true := by
  rw [movB_iff]
  exact ⟨h, fun _ v hv hne => by simp at hv; omega⟩
theorem left_one {r : Pw} {k : Int} : leftB [r] [k] = decide ((r.st.length : Int) ≤ k) := by simp [leftB, el]
theorem exm_one {r : Pw} {B : Int} : ∀ (d : Nat) (k : Int) (m : Nat) (S : List (List Int)), k + d = r.st.length → d ≤ m → (S.length : Int) + d + 1 ≤ B → (∀ x ∈ S, el x (0 : Int) < k) → (exm [r] B m S [k]).c = 0 ∧ (exm [r] B m S [k]).plan = List.replicate d 0 ∧ ((exm [r] B m S [k]).seen.length : Int) = S.length + d + 1
  | 0, k, m, S, hk, hm, hB, hS => by
    have hlf : leftB [r] [k] = true := by rw [left_one, decide_eq_true_eq]; omega
    have e : ∀ f, exB [r] B f S [k] = ⟨0, S ++ [[k]], []⟩ := fun f => by unfold exB; rw [if_neg (by omega), if_pos hlf]
    have e2 : exm [r] B m S [k] = ⟨0, S ++ [[k]], []⟩ := by cases m <;> exact e _
    rw [e2]; exact ⟨rfl, rfl, by simp⟩
  | d + 1, k, m, S, hk, hm, hB, hS => by
    obtain ⟨m, rfl⟩ : ∃ m', m = m' + 1 := ⟨m - 1, by omega⟩
    have hlf : ¬ leftB [r] [k] = true := by rw [left_one, decide_eq_true_eq]; omega
    have hS1 : ∀ x ∈ S ++ [[k]], el x (0 : Int) < k + 1 := fun x hx => by
      rcases List.mem_append.1 hx with q | q
      · have := hS x q; omega
      · rw [List.mem_singleton.1 q]; show k < k + 1; omega
    have ih := exm_one (r := r) (B := B) d (k + 1) m (S ++ [[k]]) (by omega) (by omega) (by simp; omega) hS1
    have hn : nxA [k] 0 = [k + 1] := rfl
    have hni : ¬ nxA [k] 0 ∈ S ++ [[k]] := fun q => by
      have := hS1 _ q
      rw [hn] at this
      have h2 : k + 1 < k + 1 := this
      omega
    have e : exm [r] B (m + 1) S [k] = ⟨(exm [r] B m (S ++ [[k]]) [k + 1]).c, (exm [r] B m (S ++ [[k]]) [k + 1]).seen, 0 :: (exm [r] B m (S ++ [[k]]) [k + 1]).plan⟩ := by
      show exB [r] B (exm [r] B m) S [k] = _
      unfold exB
      rw [if_neg (by omega), if_neg hlf]
      show exL [r] (exm [r] B m) [k] 1 0 (S ++ [[k]]) = _
      unfold exL
      rw [if_pos ⟨mov_one (by omega), hni⟩, hn, if_neg (by rw [ih.1]; decide)]
      rfl
    rw [e]
    refine ⟨ih.1, by show 0 :: _ = _; rw [ih.2.1]; rfl, ?_⟩
    have := ih.2.2
    simp at this ⊢
    omega
theorem alone {r : Pw} {k n e e0 : Int} {l : List Int} (hr : 1 ≤ r.st.length ∧ r.st.length ≤ 4 ∧ RwS r.st) (hk : -1 ≤ k ∧ k ≤ r.st.length) (hck : CkR [r] [k] e0) (h : (l, n, e) = srF [r] [k] 1048576 e0) : e = 0 ∧ (l.length : Int) = r.st.length - k ∧ n = l.length + 1 ∧ ∀ x ∈ l, x = 0 := by
  have hva : VaP [r] := va_small (by simp) (fun x hx => by rw [List.mem_singleton.1 hx]; exact hr)
  have hg : GoP [r] [k] := ⟨rfl, fun t ht => by
    have : t = 0 := by simp at ht; omega
    subst this; exact hk⟩
  have hnh : ¬ Hel [r] [k] := fun ⟨x, y, hx, hy, _⟩ => by simp at hx; omega
  have h0 := hck.of hva hg hnh
  obtain ⟨d, hd⟩ := Int.eq_ofNat_of_zero_le (show 0 ≤ (r.st.length : Int) - k by omega)
  have hrem : remT [r] [k] [r].length = d := by
    show 0 + ((r.st.length : Int) - k).toNat = d
    omega
  unfold srF at h
  rw [if_neg (fun q => q h0), if_neg (by omega), hrem] at h
  have hx := exm_one (r := r) (B := 1048576) d k d [] (by omega) (Nat.le_refl _) (by simp; omega) (by simp)
  unfold srR at h
  rw [if_pos hx.1] at h
  have h1 : l = _ := congrArg Prod.fst h
  have h2 : n = ((exm [r] 1048576 d [] [k]).seen.length : Int) := congrArg (fun q => q.2.1) h
  have h3 : e = 0 := congrArg (fun q => q.2.2) h
  rw [hx.2.1] at h1
  have h4 := hx.2.2
  subst h1
  refine ⟨h3, by simp; omega, ?_, fun x hx => (List.mem_replicate.1 hx).2⟩
  simp at h4 ⊢
  omega
theorem pin_one {lo hi : Nat} {w : World} {ad : Option Addr} {rows : List Pw} (h : PIn lo hi w ad rows) (h1 : 1 ≤ rows.length) {r : Pw} (hr : r = el rows (0 : Int)) : PIn lo hi w ad [r] := by
  have e : rows.take 1 = [r] := by rw [hr]; have := tkS (l := rows) (k := 0) (by omega); simpa using this
  have hm : r ∈ rows := by rw [hr]; exact el_mem (by omega) (by omega)
  exact ⟨e ▸ h.tb.take 1, fun x hx => by rw [List.mem_singleton.1 hx]; exact h.row r hm, fun x hx s hs => by rw [List.mem_singleton.1 hx] at hs; exact h.pts r hm s hs⟩

set_option maxHeartbeats 4000000 in
set_option maxRecDepth 100000 in
theorem law36_DeadlockAlone_ok (a0 : Option Addr) (c0 : Nat) (l0 : List Int) (x1 : Int) (w : World) (hL0 : Ints 0 w.heap.size w a0 l0) (hl0 : (l0.length : Int) ≤ 9223372036854775807)  : Cal Try.prog 6 [.slice a0 l0.length c0, .int .i64 x1] w (fun v w' => v = .bool true ∧ Ext w w') := by
  have hE : Out 0 0 w w := Out.refl _ _ w
  refine enter Try.func6 rfl Try.ntmps6 rfl ?_
  refine wp_seq ?_
  refine rg ?_
  refine st (asB rfl) ?_
  refine rg_end ?_
  refine n_then ?_
  refine wp_seq ?_
  refine rg ?_
  refine st (mvS rfl) ?_
  refine sc cl13 (keep2_Paths_ok _ _ _ _ _ _ hL0 hl0) rfl ?_
  rintro v5 w1 ⟨rows, ap, cp, rfl, hsm, hcp, hP, ho2⟩
  have hva := hsm.va
  have hn3 := hsm.n3
  have hn1 := hsm.n1
  have hln := sm_len hsm
  obtain ⟨r0, hr0⟩ : ∃ r, r = el rows (0 : Int) := ⟨_, rfl⟩
  have hrm : r0 ∈ rows := by rw [hr0]; exact el_mem (by omega) (by omega)
  have hrr := hsm.row _ hrm
  have hP1 := pin_one hP hn1 hr0
  have hln1 : ∀ r ∈ [r0], (r.st.length : Int) ≤ 9223372036854775807 ∧ ∀ s ∈ r.st, (s.pts.length : Int) ≤ 9223372036854775807 := fun r hr => by rw [List.mem_singleton.1 hr]; exact hln _ hrm
  have hz6 := ho2.size
  replace hL0 := hL0.ext ho2
  replace hE := hE.step ho2 (.inl (Nat.le_refl _))
  refine st (y_slh sl23 rfl rfl (by omega) (by omega)) ?_
  refine st (asS rfl) ?_
  refine rg_end ?_
  refine n_then ?_
  refine wp_seq ?_
  refine rg ?_
  refine st (mvI rfl) ?_
  refine st (mvS rfl) ?_
  refine st (y_ix hP1.tb sl23 rfl (rfl) rfl (by omega) (by simp)) ?_
  refine st (y_le hP1.tb na35 rfl (by omega) (by simp) rfl) ?_
  rw [el_one]
  refine st (y_len Try.underlying35 rfl) ?_
  refine st (y_add rfl rfl (by omega)) ?_
  refine sc cl22 (keep_Pick_ok _ _ _ (by omega) (by omega)) rfl ?_
  rintro v11 w7 ⟨rfl, ho8⟩
  have hq := pick_rng x1 ((r0.st.length : Int) + 2) (by omega)
  have hz12 := ho8.size
  replace hL0 := hL0.ext ho8
  replace hE := hE.step ho8 (.inl (Nat.le_refl _))
  replace hP := hP.ext ho8
  replace hP1 := hP1.ext ho8
  refine st (y_sub rfl rfl (by omega)) ?_
  obtain ⟨kk, hkk⟩ : ∃ z, z = pick x1 ((r0.st.length : Int) + 2) - 1 := ⟨_, rfl⟩
  rw [← hkk]
  have hkr : -1 ≤ kk ∧ kk ≤ r0.st.length := by omega
  refine st (asI rfl) ?_
  refine rg_end ?_
  refine n_then ?_
  refine wp_seq ?_
  refine rg ?_
  refine st (mvS rfl) ?_
  refine st (mvI rfl) ?_
  refine sd (d_bs (bsl22_1 _ _) rfl ?_)
  intro bl16 w13 hbbl16 hs15 ho14 hbl16
  have hA1 : Sl encI 1 bl16 (bl16 + 1) w13 (some ⟨bl16, 0, none⟩) ([kk] : List Int) := Blk.sl (l := ([kk] : List Int)) hbl16 (fun _ => rfl) (Nat.le_refl _) (Nat.lt_succ_self _)
  have hz17 := ho14.size
  replace hL0 := hL0.ext ho14
  replace hE := hE.step ho14 (.inl (Nat.le_refl _))
  replace hP := hP.ext ho14
  replace hP1 := hP1.ext ho14
  refine sc cl17 (dead_Search_ok [r0] _ _ _ _ [kk] _ _ _ _ 1048576 _ hP1 (by simp) hA1 hln1 (by simp)) rfl ?_
  rintro v22 w18 ⟨ad1, cc1, s1, n1, e1, k1, rfl, hck1, hsr1, hO1, ho19⟩
  obtain ⟨hz1, hz2, hz3, hz4⟩ := alone hrr hkr hck1 hsr1
  have hz23 := ho19.size
  replace hL0 := hL0.ext ho19
  replace hE := hE.step ho19 (.inl (Nat.le_refl _))
  replace hP := hP.ext ho19
  replace hP1 := hP1.ext ho19
  replace hA1 := hA1.ext ho19
  refine st (mvT rfl) ?_
  refine st (y_ext rfl rfl) ?_
  refine st (y_ext rfl rfl) ?_
  refine st (y_ext rfl rfl) ?_
  refine st (asS rfl) ?_
  refine st (asI rfl) ?_
  refine st (asI rfl) ?_
  refine rg_end ?_
  refine n_then ?_
  refine wp_seq ?_
  refine wp_seq ?_
  refine rg ?_
  refine st (mvI rfl) ?_
  refine st (y_neq rfl rfl) ?_
  refine st (mvB rfl) ?_
  refine gspL 33 rfl (fun hg24 => ?_) (fun hg24 => ?_)
  ·
    have hg24n := hg24; try simp only [decide_eq_true_eq, decide_eq_false_iff_not, Bool.not_eq_true', Bool.not_eq_false', Bool.and_eq_true, Bool.or_eq_true, Bool.or_eq_false_iff, Bool.cond_true_right, Bool.cond_false_right, Bool.cond_true_left, Bool.cond_false_left, ne_eq, Decidable.not_not, bne_iff_ne, beq_iff_eq, beq_eq_false_iff_ne, Bool.not_true, Bool.not_false] at hg24n
    exfalso; omega
  ·
    have hg24n := hg24; try simp only [decide_eq_true_eq, decide_eq_false_iff_not, Bool.not_eq_true', Bool.not_eq_false', Bool.and_eq_true, Bool.or_eq_true, Bool.or_eq_false_iff, Bool.cond_true_right, Bool.cond_false_right, Bool.cond_true_left, Bool.cond_false_left, ne_eq, Decidable.not_not, bne_iff_ne, beq_iff_eq, beq_eq_false_iff_ne, Bool.not_true, Bool.not_false] at hg24n
    refine stg rfl rfl hg24 (mvS rfl) ?_
    refine stg rfl rfl hg24 (y_len Try.underlying22 rfl) ?_
    refine stg rfl rfl hg24 (mvS rfl) ?_
    refine stg rfl rfl hg24 (y_ix hP1.tb sl23 rfl (rfl) rfl (by omega) (by simp)) ?_
    refine stg rfl rfl hg24 (y_le hP1.tb na35 rfl (by omega) (by simp) rfl) ?_
    rw [el_one]
    refine stg rfl rfl hg24 (y_len Try.underlying35 rfl) ?_
    refine stg rfl rfl hg24 (mvI rfl) ?_
    refine stg rfl rfl hg24 (y_sub rfl rfl (by omega)) ?_
    refine stg rfl rfl hg24 (y_neq rfl rfl) ?_
    refine st (y_pickF rfl hg24 (v := .bool _) rfl) ?_
    refine st (mvB rfl) ?_
    refine gspL 44 rfl (fun hg25 => ?_) (fun hg25 => ?_)
    ·
      have hg25n := hg25; try simp only [decide_eq_true_eq, decide_eq_false_iff_not, Bool.not_eq_true', Bool.not_eq_false', Bool.and_eq_true, Bool.or_eq_true, Bool.or_eq_false_iff, Bool.cond_true_right, Bool.cond_false_right, Bool.cond_true_left, Bool.cond_false_left, ne_eq, Decidable.not_not, bne_iff_ne, beq_iff_eq, beq_eq_false_iff_ne, Bool.not_true, Bool.not_false] at hg25n
      exfalso; omega
    ·
      have hg25n := hg25; try simp only [decide_eq_true_eq, decide_eq_false_iff_not, Bool.not_eq_true', Bool.not_eq_false', Bool.and_eq_true, Bool.or_eq_true, Bool.or_eq_false_iff, Bool.cond_true_right, Bool.cond_false_right, Bool.cond_true_left, Bool.cond_false_left, ne_eq, Decidable.not_not, bne_iff_ne, beq_iff_eq, beq_eq_false_iff_ne, Bool.not_true, Bool.not_false] at hg25n
      refine stg rfl rfl hg25 (mvI rfl) ?_
      refine stg rfl rfl hg25 (mvS rfl) ?_
      refine stg rfl rfl hg25 (y_len Try.underlying22 rfl) ?_
      refine stg rfl rfl hg25 (y_add rfl rfl (by omega)) ?_
      refine stg rfl rfl hg25 (y_neq rfl rfl) ?_
      refine st (y_pickF rfl hg25 (v := .bool _) rfl) ?_
      refine rg_end ?_
      refine n_then ?_
      refine cnd rfl (fun hc0 => ?_) (fun hc0 => ?_)
      ·
        try simp only [decide_eq_true_eq, decide_eq_false_iff_not, Bool.not_eq_true', Bool.not_eq_false', Bool.and_eq_true, Bool.or_eq_true, Bool.or_eq_false_iff, Bool.cond_true_right, Bool.cond_false_right, Bool.cond_true_left, Bool.cond_false_left, ne_eq, Decidable.not_not, bne_iff_ne, beq_iff_eq, beq_eq_false_iff_ne, Bool.not_true, Bool.not_false] at hc0
        exfalso; omega
      ·
        try simp only [decide_eq_true_eq, decide_eq_false_iff_not, Bool.not_eq_true', Bool.not_eq_false', Bool.and_eq_true, Bool.or_eq_true, Bool.or_eq_false_iff, Bool.cond_true_right, Bool.cond_false_right, Bool.cond_true_left, Bool.cond_false_left, ne_eq, Decidable.not_not, bne_iff_ne, beq_iff_eq, beq_eq_false_iff_ne, Bool.not_true, Bool.not_false] at hc0
        refine wp_skip ?_
        refine n_then ?_
        refine wp_seq ?_
        refine wp_seq ?_
        refine rg ?_
        refine st (mvS rfl) ?_
        refine st (y_len Try.underlying22 rfl) ?_
        refine st (mvI rfl) ?_
        refine rg_end ?_
        refine n_then ?_
        refine wp_block ?_
        refine lp (γ := Nat) [4, 11, 53, 54, 55, 56, 57, 58, 59] (fun k => [(53, .int .i64 (k : Int))]) (fun k w_ => Ext w18 w_ ∧ (k : Int) ≤ s1.length) (fun k => s1.length - k) 0 ⟨rfl, trivial⟩ ⟨Out.refl _ _ _, by omega⟩ ?_
        rintro k hav_ w26 ⟨ho27, hk_⟩
        have hlp0 := ho27
        have hz28 := ho27.size
        replace hL0 := hL0.ext ho27
        replace hE := hE.step ho27 (.inl (Nat.le_refl _))
        replace hP := hP.ext ho27
        replace hP1 := hP1.ext ho27
        replace hA1 := hA1.ext ho27
        replace hO1 := hO1.ext ho27
        refine wp_seq ?_
        refine rg ?_
        refine st (y_lss rfl rfl) ?_
        refine rg_end ?_
        refine n_then ?_
        refine wp_seq ?_
        refine cnd rfl (fun hc1 => ?_) (fun hc1 => ?_)
        ·
          try simp only [decide_eq_true_eq, decide_eq_false_iff_not, Bool.not_eq_true', Bool.not_eq_false', Bool.and_eq_true, Bool.or_eq_true, Bool.or_eq_false_iff, Bool.cond_true_right, Bool.cond_false_right, Bool.cond_true_left, Bool.cond_false_left, ne_eq, Decidable.not_not, bne_iff_ne, beq_iff_eq, beq_eq_false_iff_ne, Bool.not_true, Bool.not_false] at hc1
          have hzz := hz4 _ (el_mem (l := s1) (i := (k : Int)) (by omega) hc1)
          refine wp_skip ?_
          refine n_then ?_
          refine wp_seq ?_
          refine wp_block ?_
          refine wp_seq ?_
          refine rg ?_
          refine st (y_ix hO1.sl sl22 rfl (rfl) rfl (by omega) (by omega)) ?_
          refine st (y_le hO1.sl na3 rfl (by omega) (by omega) rfl) ?_
          refine st (asI rfl) ?_
          refine rg_end ?_
          refine n_then ?_
          refine wp_seq ?_
          refine rg ?_
          refine st (mvI rfl) ?_
          refine st (y_neq rfl rfl) ?_
          refine rg_end ?_
          refine n_then ?_
          refine cnd rfl (fun hc2 => ?_) (fun hc2 => ?_)
          ·
            try simp only [decide_eq_true_eq, decide_eq_false_iff_not, Bool.not_eq_true', Bool.not_eq_false', Bool.and_eq_true, Bool.or_eq_true, Bool.or_eq_false_iff, Bool.cond_true_right, Bool.cond_false_right, Bool.cond_true_left, Bool.cond_false_left, ne_eq, Decidable.not_not, bne_iff_ne, beq_iff_eq, beq_eq_false_iff_ne, Bool.not_true, Bool.not_false] at hc2
            exfalso; omega
          ·
            try simp only [decide_eq_true_eq, decide_eq_false_iff_not, Bool.not_eq_true', Bool.not_eq_false', Bool.and_eq_true, Bool.or_eq_true, Bool.or_eq_false_iff, Bool.cond_true_right, Bool.cond_false_right, Bool.cond_true_left, Bool.cond_false_left, ne_eq, Decidable.not_not, bne_iff_ne, beq_iff_eq, beq_eq_false_iff_ne, Bool.not_true, Bool.not_false] at hc2
            refine wp_skip ?_
            refine n_blk ?_
            refine n_then ?_
            refine rg ?_
            refine st (y_add rfl rfl (by omega)) ?_
            refine st (mvI rfl) ?_
            refine rg_end ?_
            exact n_then ⟨k + 1, _, rfl, same_lk rfl (same_h0), ⟨rfl, trivial⟩, ⟨hlp0, by omega⟩, by first | omega | (dsimp only; omega)⟩
        ·
          try simp only [decide_eq_true_eq, decide_eq_false_iff_not, Bool.not_eq_true', Bool.not_eq_false', Bool.and_eq_true, Bool.or_eq_true, Bool.or_eq_false_iff, Bool.cond_true_right, Bool.cond_false_right, Bool.cond_true_left, Bool.cond_false_left, ne_eq, Decidable.not_not, bne_iff_ne, beq_iff_eq, beq_eq_false_iff_ne, Bool.not_true, Bool.not_false] at hc1
          refine wp_exit ?_
          refine e_then (e_then (e_blk (?_)))
          refine n_then ?_
          refine wp_seq ?_
          refine rg ?_
          refine sc cl16 (law36_awake_ok _) rfl ?_
          rintro v33 w29 ⟨rfl, ho30⟩
          have hz34 := ho30.size
          replace hL0 := hL0.ext ho30
          replace hE := hE.step ho30 (.inl (Nat.le_refl _))
          replace hP := hP.ext ho30
          replace hP1 := hP1.ext ho30
          replace hA1 := hA1.ext ho30
          replace hO1 := hO1.ext ho30
          refine st (asB rfl) ?_
          refine rg_end ?_
          refine n_then ?_
          refine wp_ret ?_
          refine ret1 (v := (.bool _)) Try.results6 rfl ?_
          exact ⟨rfl, hE⟩

theorem er_mem {α : Type} {t : Nat} {l : List α} {x : α} (h : x ∈ er t l) : x ∈ l := by
  rcases List.mem_append.1 h with q | q
  · exact List.mem_of_mem_take q
  · exact List.mem_of_mem_drop q

set_option maxHeartbeats 4000000 in
set_option maxRecDepth 100000 in
theorem law36_DeadlockFewer_ok (a0 : Option Addr) (c0 : Nat) (l0 : List Int) (a1 : Option Addr) (c1 : Nat) (l1 : List Int) (x2 : Int) (w : World) (hL0 : Ints 0 w.heap.size w a0 l0) (hl0 : (l0.length : Int) ≤ 9223372036854775807) (hL1 : Ints 0 w.heap.size w a1 l1) (hl1 : (l1.length : Int) ≤ 9223372036854775807)  : Cal Try.prog 5 [.slice a0 l0.length c0, .slice a1 l1.length c1, .int .i64 x2] w (fun v w' => v = .bool true ∧ Ext w w') := by
  have hE : Out 0 0 w w := Out.refl _ _ w
  refine enter Try.func5 rfl Try.ntmps5 rfl ?_
  refine wp_seq ?_
  refine rg ?_
  refine st (asB rfl) ?_
  refine rg_end ?_
  refine n_then ?_
  refine wp_seq ?_
  refine rg ?_
  refine st (mvS rfl) ?_
  refine sc cl13 (keep2_Paths_ok _ _ _ _ _ _ hL0 hl0) rfl ?_
  rintro v5 w1 ⟨rows, ap, cp, rfl, hsm, hcp, hP, ho2⟩
  have hva := hsm.va
  have hn3 := hsm.n3
  have hn1 := hsm.n1
  have hln := sm_len hsm
  have hz6 := ho2.size
  replace hL0 := hL0.ext ho2
  replace hL1 := hL1.ext ho2
  replace hE := hE.step ho2 (.inl (Nat.le_refl _))
  refine st (asS rfl) ?_
  refine rg_end ?_
  refine n_then ?_
  refine wp_seq ?_
  refine rg ?_
  refine st (mvS rfl) ?_
  refine st (mvS rfl) ?_
  refine sc cl14 (keep2_At_ok rows _ _ _ _ _ _ _ _ _ _ hP (by omega) hL1 hl1 hsm) rfl ?_
  rintro v11 w7 ⟨ax, cx, at_, rfl, hg, hcx, hx, ho8⟩
  have hl := hg.len
  have hz12 := ho8.size
  replace hL0 := hL0.ext ho8
  replace hL1 := hL1.ext ho8
  replace hE := hE.step ho8 (.inl (Nat.le_refl _))
  replace hP := hP.ext ho8
  refine st (asS rfl) ?_
  refine rg_end ?_
  refine n_then ?_
  refine wp_seq ?_
  refine wp_seq ?_
  refine rg ?_
  refine st (mvS rfl) ?_
  refine st (mvS rfl) ?_
  refine sc cl17 (dead_Search_ok rows _ _ _ _ at_ _ _ _ _ 1048576 _ hP (by omega) (Ow.sl hx) hln (by omega)) rfl ?_
  rintro v17 w13 ⟨ad1, cc1, s1, n1, e1, k1, rfl, hck1, hsr1, hO1, ho14⟩
  have hs1l := sr_len2 hva hg hsr1
  have hz18 := ho14.size
  replace hL0 := hL0.ext ho14
  replace hL1 := hL1.ext ho14
  replace hE := hE.step ho14 (.inl (Nat.le_refl _))
  replace hP := hP.ext ho14
  replace hx := hx.ext ho14
  refine st (mvT rfl) ?_
  refine st (y_ext rfl rfl) ?_
  refine st (y_ext rfl rfl) ?_
  refine st (y_ext rfl rfl) ?_
  refine st (asS rfl) ?_
  refine st (asI rfl) ?_
  refine st (asI rfl) ?_
  refine rg_end ?_
  refine n_then ?_
  refine wp_seq ?_
  refine rg ?_
  refine st (mvI rfl) ?_
  refine st (y_neq rfl rfl) ?_
  refine rg_end ?_
  refine n_then ?_
  refine cnd rfl (fun hc0 => ?_) (fun hc0 => ?_)
  ·
    try simp only [decide_eq_true_eq, decide_eq_false_iff_not, Bool.not_eq_true', Bool.not_eq_false', Bool.and_eq_true, Bool.or_eq_true, Bool.or_eq_false_iff, Bool.cond_true_right, Bool.cond_false_right, Bool.cond_true_left, Bool.cond_false_left, ne_eq, Decidable.not_not, bne_iff_ne, beq_iff_eq, beq_eq_false_iff_ne, Bool.not_true, Bool.not_false] at hc0
    refine wp_seq ?_
    refine rg ?_
    refine sc cl16 (law36_awake_ok _) rfl ?_
    rintro v23 w19 ⟨rfl, ho20⟩
    have hz24 := ho20.size
    replace hL0 := hL0.ext ho20
    replace hL1 := hL1.ext ho20
    replace hE := hE.step ho20 (.inl (Nat.le_refl _))
    replace hP := hP.ext ho20
    replace hx := hx.ext ho20
    replace hO1 := hO1.ext ho20
    refine st (asB rfl) ?_
    refine rg_end ?_
    refine n_then ?_
    refine wp_ret ?_
    refine r_then (ret1 (v := (.bool _)) Try.results5 rfl ?_)
    exact ⟨rfl, hE⟩
  ·
    try simp only [decide_eq_true_eq, decide_eq_false_iff_not, Bool.not_eq_true', Bool.not_eq_false', Bool.and_eq_true, Bool.or_eq_true, Bool.or_eq_false_iff, Bool.cond_true_right, Bool.cond_false_right, Bool.cond_true_left, Bool.cond_false_left, ne_eq, Decidable.not_not, bne_iff_ne, beq_iff_eq, beq_eq_false_iff_ne, Bool.not_true, Bool.not_false] at hc0
    refine wp_skip ?_
    refine n_then ?_
    refine wp_seq ?_
    refine rg ?_
    refine st (mvI rfl) ?_
    refine st (mvS rfl) ?_
    refine st (y_len Try.underlying23 rfl) ?_
    refine sc cl22 (keep_Pick_ok _ _ _ (by omega) (by omega)) rfl ?_
    rintro v29 w25 ⟨rfl, ho26⟩
    have hq := pick_rng x2 (rows.length : Int) (by omega)
    obtain ⟨t, ht⟩ := Int.eq_ofNat_of_zero_le hq.1
    rw [ht] at hq ⊢
    have htl : t < rows.length := by omega
    have hz30 := ho26.size
    replace hL0 := hL0.ext ho26
    replace hL1 := hL1.ext ho26
    replace hE := hE.step ho26 (.inl (Nat.le_refl _))
    replace hP := hP.ext ho26
    replace hx := hx.ext ho26
    replace hO1 := hO1.ext ho26
    refine st (asI rfl) ?_
    refine rg_end ?_
    refine n_then ?_
    refine wp_seq ?_
    have hTk := hP.tb.take t
    have hDr := hP.tb.drop hcp ((t : Int) + 1).toNat
    refine rgD 8 (fun w_ => Ext w25 w_) (fun i => Nat.beq i 3) mixed (by kernel_rfl) ?_
    intro w31 ho32 hs33
    refine ⟨ho32, ?_⟩
    have hx34 := ho32
    refine tn rfl (fun _ hG => mvS rfl) ?_
    refine tn rfl (fun _ hG => mvI rfl) ?_
    refine tn rfl (fun _ hG => y_slh sl23 rfl rfl (by omega) (by omega)) ?_
    obtain ⟨zl, hzl⟩ : ∃ z, z = w31.heap.size := ⟨_, rfl⟩
    have hle := Ow.nil (E := 35) (sz := 1) (enc := encPw) (lo := zl) (hi := 0) (w := w31) (fun _ => rfl)
    have hrhle := hle.rng
    refine td rfl (d_appN (xs := (rows.take t)) hle sl23 infoz35 (by decide) rfl rfl rfl (by rw [List.length_take]; omega) ((hTk.ext hx34)) (fun _ => rfl) (by simp; unfold maxLen; omega) (by simp; omega) (by omega) (Nat.zero_le _) ?_)
    intro la1 lc1 w35 ho36 hle'
    have hs37 := ho36.size
    clear hle; have hle := hle'; clear hle'
    replace ho36 : Ext _ _ := ho36
    have hx40 := hx34.step ho36 (.inl (Nat.le_refl _))
    have hz41 := ho36.size
    refine ⟨hx40, ?_⟩
    simp only [List.nil_append] at hle ⊢
    have hler := hle.rng
    refine tn rfl (fun _ hG => mvS rfl) ?_
    refine tn rfl (fun _ hG => mvI rfl) ?_
    refine tn rfl (fun _ hG => y_add rfl rfl (by omega)) ?_
    refine tn rfl (fun _ hG => y_sll sl23 rfl rfl (by omega) (by omega)) ?_
    refine t_end ?_
    have hz42 := hx40.size
    replace hL0 := hL0.ext hx40
    replace hL1 := hL1.ext hx40
    replace hE := hE.step hx40 (.inl (Nat.le_refl _))
    replace hP := hP.ext hx40
    replace hx := hx.ext hx40
    replace hO1 := hO1.ext hx40
    replace hTk := hTk.ext hx40
    replace hDr := hDr.ext hx40
    have hrhle := hle.rng
    refine sd (d_appN (xs := (rows.drop ((t : Int) + 1).toNat)) hle sl23 infoz35 (by decide) rfl rfl rfl (by rw [List.length_drop]) (hDr) (fun _ => rfl) (by simp; unfold maxLen; omega) (by simp; omega) (by omega) (by omega) ?_)
    intro la2 lc2 w43 ho44 hle'
    have hs45 := ho44.size
    clear hle; have hle := hle'; clear hle'
    have hz48 := ho44.size
    replace hL0 := hL0.out ho44 (by first | omega | (simp only [blk_some, hi1_some] at *; omega))
    replace hL1 := hL1.out ho44 (by first | omega | (simp only [blk_some, hi1_some] at *; omega))
    replace hE := hE.step ho44 (by first | omega | (simp only [blk_some, hi1_some] at *; omega))
    replace hP := hP.out ho44 (by first | omega | (simp only [blk_some, hi1_some] at *; omega))
    have hrnhx := hx.rng
    replace hx := hx.out ho44 (by first | omega | (simp only [blk_some, hi1_some] at *; omega))
    have hrnhO1 := hO1.rng
    replace hO1 := hO1.out ho44 (by first | omega | (simp only [blk_some, hi1_some] at *; omega))
    replace hTk := hTk.out ho44 (by first | omega | (simp only [blk_some, hi1_some] at *; omega))
    replace hDr := hDr.out ho44 (by first | omega | (simp only [blk_some, hi1_some] at *; omega))
    rw [show ((t : Int) + 1).toNat = t + 1 by omega] at hle ⊢
    have hler2 := hle.rng
    refine st (asS rfl) ?_
    refine rg_end ?_
    refine n_then ?_
    refine wp_seq ?_
    have hTk2 := hx.sl.take t
    have hDr2 := hx.sl.drop hcx ((t : Int) + 1).toNat
    refine rgD 8 (fun w_ => Ext w43 w_) (fun i => Nat.beq i 3) mixed (by kernel_rfl) ?_
    intro w49 ho50 hs51
    refine ⟨ho50, ?_⟩
    have hx52 := ho50
    refine tn rfl (fun _ hG => mvS rfl) ?_
    refine tn rfl (fun _ hG => mvI rfl) ?_
    refine tn rfl (fun _ hG => y_slh sl22 rfl rfl (by omega) (by omega)) ?_
    obtain ⟨zf, hzf⟩ : ∃ z, z = w49.heap.size := ⟨_, rfl⟩
    have hlf := Ow.nil (E := 3) (sz := 1) (enc := encI) (lo := zf) (hi := 0) (w := w49) (fun _ => rfl)
    have hrhlf := hlf.rng
    refine td rfl (d_appN (xs := (at_.take t)) hlf sl22 infoz3 (by decide) rfl rfl rfl (by rw [List.length_take]; omega) ((hTk2.ext hx52)) (fun _ => rfl) (by simp; unfold maxLen; omega) (by simp; omega) (by omega) (Nat.zero_le _) ?_)
    intro fa1 fc1 w53 ho54 hlf'
    have hs55 := ho54.size
    clear hlf; have hlf := hlf'; clear hlf'
    replace ho54 : Ext _ _ := ho54
    have hx58 := hx52.step ho54 (.inl (Nat.le_refl _))
    have hz59 := ho54.size
    refine ⟨hx58, ?_⟩
    simp only [List.nil_append] at hlf ⊢
    have hlfr := hlf.rng
    refine tn rfl (fun _ hG => mvS rfl) ?_
    refine tn rfl (fun _ hG => mvI rfl) ?_
    refine tn rfl (fun _ hG => y_add rfl rfl (by omega)) ?_
    refine tn rfl (fun _ hG => y_sll sl22 rfl rfl (by omega) (by omega)) ?_
    refine t_end ?_
    have hz60 := hx58.size
    replace hL0 := hL0.ext hx58
    replace hL1 := hL1.ext hx58
    replace hE := hE.step hx58 (.inl (Nat.le_refl _))
    replace hP := hP.ext hx58
    replace hx := hx.ext hx58
    replace hO1 := hO1.ext hx58
    replace hTk := hTk.ext hx58
    replace hDr := hDr.ext hx58
    replace hle := hle.ext hx58
    replace hTk2 := hTk2.ext hx58
    replace hDr2 := hDr2.ext hx58
    have hrhlf := hlf.rng
    refine sd (d_appN (xs := (at_.drop ((t : Int) + 1).toNat)) hlf sl22 infoz3 (by decide) rfl rfl rfl (by rw [List.length_drop]) (hDr2) (fun _ => rfl) (by simp; unfold maxLen; omega) (by simp; omega) (by omega) (by omega) ?_)
    intro fa2 fc2 w61 ho62 hlf'
    have hs63 := ho62.size
    clear hlf; have hlf := hlf'; clear hlf'
    have hz66 := ho62.size
    replace hL0 := hL0.out ho62 (by first | omega | (simp only [blk_some, hi1_some] at *; omega))
    replace hL1 := hL1.out ho62 (by first | omega | (simp only [blk_some, hi1_some] at *; omega))
    replace hE := hE.step ho62 (by first | omega | (simp only [blk_some, hi1_some] at *; omega))
    replace hP := hP.out ho62 (by first | omega | (simp only [blk_some, hi1_some] at *; omega))
    replace hx := hx.out ho62 (by first | omega | (simp only [blk_some, hi1_some] at *; omega))
    replace hO1 := hO1.out ho62 (by first | omega | (simp only [blk_some, hi1_some] at *; omega))
    replace hTk := hTk.out ho62 (by first | omega | (simp only [blk_some, hi1_some] at *; omega))
    replace hDr := hDr.out ho62 (by first | omega | (simp only [blk_some, hi1_some] at *; omega))
    have hrnhle := hle.rng
    replace hle := hle.out ho62 (by first | omega | (simp only [blk_some, hi1_some] at *; omega))
    replace hTk2 := hTk2.out ho62 (by first | omega | (simp only [blk_some, hi1_some] at *; omega))
    replace hDr2 := hDr2.out ho62 (by first | omega | (simp only [blk_some, hi1_some] at *; omega))
    rw [show ((t : Int) + 1).toNat = t + 1 by omega] at hlf ⊢
    have hlfr2 := hlf.rng
    refine st (asS rfl) ?_
    refine rg_end ?_
    refine n_then ?_
    refine wp_seq ?_
    have hPL : PIn 0 w61.heap.size w61 la2 (er t rows) := ⟨hle.sl.wide (Nat.zero_le _) (by omega), fun r hr => (hP.row r (er_mem hr)).wide (Nat.zero_le _) (by omega), fun r hr s hs => Sl.wide (hP.pts r (er_mem hr) s hs) (Nat.zero_le _) (by omega)⟩
    refine rg ?_
    refine st (mvS rfl) ?_
    refine st (mvS rfl) ?_
    refine sc cl17 (dead_Search_ok (er t rows) _ _ _ _ (er t at_) _ _ _ _ 1048576 _ hPL (by rw [er_len htl]; omega) (Ow.sl hlf) (fun r hr => hln r (er_mem hr)) (by rw [er_len (by omega)]; omega)) rfl ?_
    rintro v71 w67 ⟨ad2, cc2, s2, n2, e2, k2, rfl, hck2, hsr2, hO2, ho68⟩
    have hz := fewer hsm hg htl hck1 hsr1 hc0 hck2 hsr2
    have hz72 := ho68.size
    replace hL0 := hL0.ext ho68
    replace hL1 := hL1.ext ho68
    replace hE := hE.step ho68 (.inl (Nat.le_refl _))
    replace hP := hP.ext ho68
    replace hx := hx.ext ho68
    replace hO1 := hO1.ext ho68
    replace hTk := hTk.ext ho68
    replace hDr := hDr.ext ho68
    replace hle := hle.ext ho68
    replace hTk2 := hTk2.ext ho68
    replace hDr2 := hDr2.ext ho68
    replace hlf := hlf.ext ho68
    replace hPL := hPL.ext ho68
    refine st (mvT rfl) ?_
    refine st (y_ext rfl rfl) ?_
    refine st (y_ext rfl rfl) ?_
    refine st (y_ext rfl rfl) ?_
    refine st (asS rfl) ?_
    refine st (asI rfl) ?_
    refine st (asI rfl) ?_
    refine rg_end ?_
    refine n_then ?_
    refine wp_seq ?_
    refine rg ?_
    refine sc cl16 (law36_awake_ok _) rfl ?_
    rintro v77 w73 ⟨rfl, ho74⟩
    have hz78 := ho74.size
    replace hL0 := hL0.ext ho74
    replace hL1 := hL1.ext ho74
    replace hE := hE.step ho74 (.inl (Nat.le_refl _))
    replace hP := hP.ext ho74
    replace hx := hx.ext ho74
    replace hO1 := hO1.ext ho74
    replace hTk := hTk.ext ho74
    replace hDr := hDr.ext ho74
    replace hle := hle.ext ho74
    replace hTk2 := hTk2.ext ho74
    replace hDr2 := hDr2.ext ho74
    replace hlf := hlf.ext ho74
    replace hPL := hPL.ext ho74
    replace hO2 := hO2.ext ho74
    refine st (mvB rfl) ?_
    refine stg rfl rfl rfl (mvI rfl) ?_
    refine stg rfl rfl rfl (y_eql rfl rfl) ?_
    refine st (y_pickT rfl rfl (v := .bool _) rfl) ?_
    refine st (asB rfl) ?_
    refine rg_end ?_
    refine n_then ?_
    refine wp_ret ?_
    refine ret1 (v := (.bool _)) Try.results5 rfl ?_
    exact ⟨vb (by simp [hz]), hE⟩
end Go.Proofs.Yteicgnmggkhlbaa
