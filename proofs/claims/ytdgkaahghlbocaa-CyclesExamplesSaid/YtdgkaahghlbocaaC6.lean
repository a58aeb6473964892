/-
  Walks of the functions, printed by a program out of the code and the loops' relations.
-/
import Derived.Test.YtdgkaahghlbocaaWkD
import Derived.Test.YtdgkaahghlbocaaProg
import Derived.KernelRfl
import Derived.Test.YtdgkaahghlbocaaC5
import Derived.Test.YtdgkaahghlbocaaTr
namespace Go.Proofs.Ytdgkaahghlbocaa
open Go.Wk Go.RowKit
set_option linter.unusedVariables false
set_option linter.unusedSimpArgs false
def spanA (N : Net) (i : Nat) : Int := (el N.acts (i : Int)).mx - (el N.acts (i : Int)).mn
/-- On the way to a spanning forest: 'T' is what has been taken, 'D' holds of what has been looked at. -/
structure Kr (N : Net) (R : Int → Int) (Tk : List Bool) (T : List Int) (D : Nat → Prop) : Prop where
  ht : Tells N.evs.length R (conB (T.map (el N.acts)))
  tl : Tk.length = N.acts.length
  mem : ∀ i : Nat, i < N.acts.length → (el Tk (i : Int) = true ↔ (i : Int) ∈ T)
  rng : ∀ x ∈ T, 0 ≤ x ∧ x < N.acts.length
  new : ∀ q : Nat, q < T.length → conB ((T.take q).map (el N.acts)) (el N.acts (el T (q : Int))).fr (el N.acts (el T (q : Int))).tt = false
  cnt : T.length = Tk.count true
  don : ∀ i : Nat, i < N.acts.length → D i → conB (T.map (el N.acts)) (el N.acts (i : Int)).fr (el N.acts (i : Int)).tt = true
theorem Kr.zero {N : Net} {D : Nat → Prop} (hD : ∀ i, ¬ D i) : Kr N (fun x => x) (List.replicate N.acts.length false) [] D :=
  ⟨by simpa [conB] using Tells.start _, by simp, fun i hi => by rw [elRep (by omega) (by omega)]; simp, fun x hx => (by cases hx), fun q hq => (by simp at hq), by simp [List.count_replicate], fun i hi h => absurd h (hD i)⟩
theorem Kr.mono {N : Net} {R : Int → Int} {Tk : List Bool} {T : List Int} {D D' : Nat → Prop} (h : Kr N R Tk T D) (hD : ∀ i : Nat, i < N.acts.length → D' i → D i) : Kr N R Tk T D' := ⟨h.ht, h.tl, h.mem, h.rng, h.new, h.cnt, fun i hi hd => h.don i hi (hD i hi hd)⟩
theorem Kr.same {N : Net} {R : Int → Int} {Tk : List Bool} {T : List Int} {D : Nat → Prop} {k : Nat} (h : Kr N R Tk T D) (ok : AcOk N (el N.acts (k : Int))) (hs : R (el N.acts (k : Int)).fr = R (el N.acts (k : Int)).tt) : Kr N (nameR R (el N.acts (k : Int)).fr (el N.acts (k : Int)).tt) Tk T (fun i => D i ∨ i = k) := by
  rw [name_same hs]
  refine ⟨h.ht, h.tl, h.mem, h.rng, h.new, h.cnt, fun i hi hd => ?_⟩
  rcases hd with hd | rfl
  · exact h.don i hi hd
  · exact (h.ht _ _ ok.f0 ok.f1 ok.t0 ok.t1).2 hs
theorem Kr.take {N : Net} {R : Int → Int} {Tk : List Bool} {T : List Int} {D : Nat → Prop} {k : Nat} (h : Kr N R Tk T D) (hk : k < N.acts.length) (ok : AcOk N (el N.acts (k : Int))) (hs : ¬ R (el N.acts (k : Int)).fr = R (el N.acts (k : Int)).tt) : Kr N (nameR R (el N.acts (k : Int)).fr (el N.acts (k : Int)).tt) (Tk.set (k : Int).toNat true) (T ++ [(k : Int)]) (fun i => D i ∨ i = k) := by
  have hc : conB (T.map (el N.acts)) (el N.acts (k : Int)).fr (el N.acts (k : Int)).tt = false := by
    cases e : conB (T.map (el N.acts)) (el N.acts (k : Int)).fr (el N.acts (k : Int)).tt with
    | false => rfl
    | true => exact absurd ((h.ht _ _ ok.f0 ok.f1 ok.t0 ok.t1).1 e) hs
  have hnm : ¬ (k : Int) ∈ T := fun hm => by
    rw [con_mem (List.mem_map.2 ⟨_, hm, rfl⟩)] at hc; cases hc
  have htl := h.tl
  have hf : el Tk (k : Int) = false := by
    cases e : el Tk (k : Int) with
    | false => rfl
    | true => exact absurd ((h.mem k hk).1 e) hnm
  have hmap : (T ++ [(k : Int)]).map (el N.acts) = T.map (el N.acts) ++ [el N.acts (k : Int)] := by simp
  refine ⟨?_, by simp [htl], fun i hi => ?_, fun x hx => ?_, fun q hq => ?_, ?_, fun i hi hd => ?_⟩
  · rw [hmap, conB_snoc]; exact h.ht.name ok.f0 ok.f1 ok.t0 ok.t1
  · by_cases e : i = k
    · subst e; rw [elSetS (by omega) (by omega)]; simp
    · rw [elSetN (by omega) (by omega) (by omega), h.mem i hi, List.mem_append, List.mem_singleton]
      exact ⟨.inl, fun q => by rcases q with q | q; exact q; omega⟩
  · rcases List.mem_append.1 hx with hx | hx
    · exact h.rng x hx
    · rw [List.mem_singleton.1 hx]; omega
  · rw [List.length_append] at hq
    by_cases e : q < T.length
    · rw [List.take_append_of_le_length (by omega)]
      have e2 : el (T ++ [(k : Int)]) (q : Int) = el T (q : Int) := by simp [el, List.getD_eq_getElem?_getD, List.getElem?_append_left e]
      rw [e2]; exact h.new q e
    · have e2 : q = T.length := by simp at hq; omega
      subst e2
      have e3 : el (T ++ [(k : Int)]) (T.length : Int) = (k : Int) := by simp [el]
      rw [e3, List.take_left]; exact hc
  · rw [List.length_append, cnt_set (by omega) (by omega) hf, h.cnt]; rfl
  · rw [hmap]
    rcases hd with hd | rfl
    · exact con_sub (fun a ha => con_mem (List.mem_append.2 (.inl ha))) (h.don i hi hd)
    · exact con_mem (List.mem_append.2 (.inr (List.mem_singleton.2 rfl)))
/-- The taken ones in ascending order. -/
def tkTo (b : List Bool) : Nat → List Int
  | 0 => []
  | k + 1 => if el b (k : Int) = true then tkTo b k ++ [(k : Int)] else tkTo b k
theorem tkTo_mem {b : List Bool} : ∀ {k : Nat} {x : Int}, x ∈ tkTo b k ↔ ∃ i : Nat, i < k ∧ x = (i : Int) ∧ el b (i : Int) = true
  | 0, x => by simp [tkTo]
  | k + 1, x => by
    unfold tkTo
    have ih := tkTo_mem (b := b) (k := k) (x := x)
    by_cases h : el b (k : Int) = true
    · rw [if_pos h, List.mem_append, List.mem_singleton, ih]
      constructor
      · rintro (⟨i, h1, h2, h3⟩ | e)
        · exact ⟨i, by omega, h2, h3⟩
        · exact ⟨k, by omega, e, h⟩
      · rintro ⟨i, h1, h2, h3⟩
        by_cases e : i = k
        · subst e; exact .inr h2
        · exact .inl ⟨i, by omega, h2, h3⟩
    · rw [if_neg h, ih]
      constructor
      · rintro ⟨i, h1, h2, h3⟩; exact ⟨i, by omega, h2, h3⟩
      · rintro ⟨i, h1, h2, h3⟩
        by_cases e : i = k
        · subst e; exact absurd h3 h
        · exact ⟨i, by omega, h2, h3⟩
theorem tkTo_len {b : List Bool} : ∀ k : Nat, k ≤ b.length → (tkTo b k).length = (b.take k).count true
  | 0, _ => by simp [tkTo]
  | k + 1, hk => by
    have ih := tkTo_len (b := b) k (by omega)
    rw [tkS (l := b) (k := k) (by omega), List.count_append]
    unfold tkTo
    cases h : el b (k : Int) with
    | false => simp [ih]
    | true => simp [ih]
theorem tkTo_asc {b : List Bool} : ∀ (k q : Nat), q + 1 < (tkTo b k).length → el (tkTo b k) (q : Int) < el (tkTo b k) ((q + 1 : Nat) : Int)
  | 0, q, h => by simp [tkTo] at h
  | k + 1, q, h => by
    unfold tkTo at h ⊢
    by_cases hb : el b (k : Int) = true
    · rw [if_pos hb] at h ⊢
      rw [List.length_append] at h
      have e1 : ∀ p : Nat, p < (tkTo b k).length → el (tkTo b k ++ [(k : Int)]) (p : Int) = el (tkTo b k) (p : Int) := fun p hp => by simp [el, List.getD_eq_getElem?_getD, List.getElem?_append_left hp]
      by_cases e : q + 1 < (tkTo b k).length
      · rw [e1 q (by omega), e1 (q + 1) e]; exact tkTo_asc k q e
      · have e2 : q + 1 = (tkTo b k).length := by simp at h; omega
        have e3 : el (tkTo b k ++ [(k : Int)]) ((q + 1 : Nat) : Int) = (k : Int) := by rw [e2]; simp [el]
        rw [e1 q (by omega), e3]
        obtain ⟨i, h1, h2, _⟩ := tkTo_mem.1 (el_mem (l := tkTo b k) (i := (q : Int)) (by omega) (by omega))
        omega
    · rw [if_neg hb] at h ⊢; exact tkTo_asc k q h
theorem elMapT {α β : Type} [Inhabited α] [Inhabited β] {l : List α} {g : α → β} {i : Int} (h0 : 0 ≤ i) (h1 : i < l.length) : el (l.map g) i = g (el l i) := by
  have h : i.toNat < l.length := by omega
  simp [el, List.getD_eq_getElem?_getD, h]
theorem Kr.done {N : Net} {R : Int → Int} {Tk : List Bool} {T : List Int} {D : Nat → Prop} (hN : NetOk N) (h : Kr N R Tk T D) (hD : ∀ i : Nat, i < N.acts.length → D i) : FoOk N (tkTo Tk N.acts.length) := by
  have htl := h.tl
  have hmm : ∀ x : Int, x ∈ tkTo Tk N.acts.length ↔ x ∈ T := fun x => by
    rw [tkTo_mem]
    constructor
    · rintro ⟨i, h1, h2, h3⟩; rw [h2]; exact (h.mem i h1).1 h3
    · intro hx
      have hr := h.rng x hx
      exact ⟨x.toNat, by omega, (Int.toNat_of_nonneg hr.1).symm, (h.mem x.toNat (by omega)).2 (by rw [Int.toNat_of_nonneg hr.1]; exact hx)⟩
  have hlen : (tkTo Tk N.acts.length).length = T.length := by
    rw [tkTo_len _ (by omega), List.take_of_length_le (by omega), h.cnt]
  have m1 : ∀ a ∈ T.map (el N.acts), a ∈ (tkTo Tk N.acts.length).map (el N.acts) := fun a ha => by
    obtain ⟨x, hx, rfl⟩ := List.mem_map.1 ha
    exact List.mem_map.2 ⟨x, (hmm x).2 hx, rfl⟩
  have m2 : ∀ a ∈ (tkTo Tk N.acts.length).map (el N.acts), a ∈ T.map (el N.acts) := fun a ha => by
    obtain ⟨x, hx, rfl⟩ := List.mem_map.1 ha
    exact List.mem_map.2 ⟨x, (hmm x).1 hx, rfl⟩
  have hin : ∀ a ∈ T.map (el N.acts), AcIn N.evs.length a := fun a ha => by
    obtain ⟨x, hx, rfl⟩ := List.mem_map.1 ha
    have hr := h.rng x hx
    have ok := hN.acs _ (el_mem hr.1 hr.2)
    exact ⟨ok.f0, ok.f1, ok.t0, ok.t1⟩
  have np := new_perm hin m1 m2 (by rw [List.length_map, List.length_map, hlen]) (fun q hq => by
    rw [List.length_map] at hq
    rw [← List.map_take, elMapT (by omega) (by omega)]; exact h.new q hq)
  refine ⟨hN, ⟨fun q hq => ?_, fun q hq => tkTo_asc _ q hq, fun q hq => ?_⟩, fun i hi => ?_⟩
  · exact h.rng _ ((hmm _).1 (el_mem (by omega) (by omega)))
  · have := np q (by rw [List.length_map]; exact hq)
    rwa [← List.map_take, elMapT (by omega) (by omega)] at this
  · rw [← con_ext m1 m2]; exact h.don i hi (hD i hi)

set_option maxHeartbeats 2000000 in
set_option maxRecDepth 100000 in
theorem ref11_TreeF_ok (N : Net) (A : NetA) (lo hi : Nat) (w : World) (hN : NetIn lo hi w N A) (hok : NetOk N) : Cal Try.prog 13 [netV N A] w (fun v w' => ∃ ad c tree, v = .slice ad tree.length c ∧ Ints w.heap.size w'.heap.size w' ad tree ∧ FoOk N tree ∧ (tree.length : Int) ≤ 512 ∧ tree.length ≤ c ∧ Ext w w') := by
 replace hN := hN.full
 have hne := hok.ev
 have hna := hok.ac
 have hp2 := hok.p2
 have hp7 := hok.p7
 have hE : Out 0 0 w w := Out.refl _ _ w
 refine enter Try.func13 rfl Try.ntmps13 rfl ?_
 refine wp_seq ?_
 refine rg ?_
 refine sd (d_boxA rfl ?_)
 intro b1 w1 hbb1 hs3 ho2 hb1
 have hz4 := ho2.size
 replace hN := hN.ext ho2
 replace hE := hE.step ho2 (.inl (Nat.le_refl _))
 refine st (asS rfl) ?_
 refine rg_end ?_
 refine n_then ?_
 refine wp_seq ?_
 refine wp_seq ?_
 refine rg ?_
 refine st (y_lbN hb1 agg26 rfl) ?_
 refine sc cl39 (ref11_Check_ok N A _ _ _ hN) rfl ?_
 rintro v9 w5 ⟨rfl, ho6⟩
 have hz10 := ho6.size
 replace hN := hN.ext ho6
 replace hE := hE.step ho6 (.inl (Nat.le_refl _))
 replace hb1 := hb1.ext ho6
 refine st (y_not rfl) ?_
 refine rg_end ?_
 refine n_then ?_
 refine cnd rfl (fun hc0 => absurd ((congrArg Bool.not (netOk_iff.2 hok)).symm.trans hc0) (by decide)) (fun hc0 => ?_)
 refine wp_skip ?_
 refine n_then ?_
 refine wp_seq ?_
 refine rg ?_
 refine st (y_fld fld26_1 rfl) ?_
 refine st (y_lb hb1 na23 rfl rfl) ?_
 refine st (y_len Try.underlying23 rfl) ?_
 refine sd (d_make (m := N.evs.length) (lo := w5.heap.size) (enc := encI) (e0 := (0 : Int)) sl22 info3 (fun _ => rfl) rfl rfl rfl (by omega) (by unfold maxLen; omega) (by omega) ?_)
 intro bp w11 hbbp hs13 ho12 hP
 have hz15 := ho12.size
 replace hN := hN.ext ho12
 replace hE := hE.step ho12 (.inl (Nat.le_refl _))
 replace hb1 := hb1.ext ho12
 refine st (asS rfl) ?_
 refine rg_end ?_
 refine n_then ?_
 refine wp_seq ?_
 refine wp_seq ?_
 refine rg ?_
 refine st (mvS rfl) ?_
 refine st (y_len Try.underlying22 rfl) ?_
 refine st (mvI rfl) ?_
 refine rg_end ?_
 refine n_then ?_
 refine wp_block ?_
 refine lp (γ := Nat × List Int) [4, 20, 21, 22, 23, 24, 25, 26, 27] (fun ⟨k, P⟩ => [(20, .int .i64 (k : Int))]) (fun ⟨k, P⟩ w_ => Out bp (bp + 1) w11 w_ ∧ (k : Int) ≤ N.evs.length ∧ P.length = N.evs.length ∧ (∀ p : Nat, p < k → el P p = p) ∧ Ow 3 encI 1 bp (bp + 1) w_ (some ⟨bp, 0, none⟩) N.evs.length P) (fun ⟨k, P⟩ => N.evs.length - k) (0, List.replicate N.evs.length 0) ⟨rfl, trivial⟩ ⟨Out.refl _ _ _, by simp, by simp, (fun p hp => by omega), hP.lower (by omega)⟩ ?_
 rintro ⟨k, P⟩ hav_ w16 ⟨ho17, hk, hPl, hfil, hP⟩
 have hlp0 := ho17
 have hz18 := ho17.size
 replace hN := hN.out ho17 (by first | omega | (simp only [blk_some, hi1_some] at *; omega))
 replace hE := hE.step ho17 (by first | omega | (simp only [blk_some, hi1_some] at *; omega))
 replace hb1 := hb1.out ho17 (by first | omega | (simp only [blk_some, hi1_some] at *; omega))
 refine wp_seq ?_
 refine rg ?_
 refine st (y_lss rfl rfl) ?_
 refine rg_end ?_
 refine n_then ?_
 refine wp_seq ?_
 refine cnd rfl (fun hc1 => ?_) (fun hc1 => ?_)
 ·
  try simp only [nm] at hc1
  refine wp_skip ?_
  refine n_then ?_
  refine wp_seq ?_
  refine wp_block ?_
  refine wp_seq ?_
  refine rg ?_
  refine st (mvI rfl) ?_
  refine st (asI rfl) ?_
  refine rg_end ?_
  refine n_then ?_
  refine rg ?_
  refine st (mvS rfl) ?_
  refine st (mvI rfl) ?_
  refine st (mvI rfl) ?_
  refine st (y_ix hP.sl sl22 rfl (hPl.symm) rfl (by omega) (by omega)) ?_
  refine sd0 (d_se (j := 0)  hP sz3 rfl rfl rfl (by omega) (by omega) (Nat.le_of_ble_eq_true rfl) rfl ?_)
  intro w19 hs21 ho20 hP'
  have hrhP := hP.rng
  clear hP; have hP := hP'; clear hP'
  have hz22 := ho20.size
  replace hN := hN.out ho20 (by first | omega | (simp only [blk_some, hi1_some] at *; omega))
  replace hE := hE.step ho20 (by first | omega | (simp only [blk_some, hi1_some] at *; omega))
  replace hb1 := hb1.out ho20 (by first | omega | (simp only [blk_some, hi1_some] at *; omega))
  replace hlp0 := hlp0.step ho20 (by first | omega | (simp only [blk_some, hi1_some] at *; omega))
  refine rg_end ?_
  refine n_blk ?_
  refine n_then ?_
  refine rg ?_
  refine st (y_add rfl rfl (by omega)) ?_
  refine st (mvI rfl) ?_
  refine rg_end ?_
  exact n_then ⟨(k + 1, _), _, rfl, same_lk rfl (same_h0), ⟨rfl, trivial⟩, ⟨hlp0, by omega, by simp [hPl], fillU hPl (by omega) hfil, hP⟩, by first | omega | (dsimp only; omega)⟩
 ·
  try simp only [nm] at hc1
  have hr0 := RootOf.start hPl (fun p hp => hfil p (by omega))
  refine wp_exit ?_
  refine e_then (e_then (e_blk (?_)))
  refine n_then ?_
  refine wp_seq ?_
  refine rg ?_
  refine st (y_fld fld26_2 rfl) ?_
  refine st (y_lb hb1 na24 rfl rfl) ?_
  refine st (y_len Try.underlying24 rfl) ?_
  refine sd (d_make (m := N.acts.length) (lo := w16.heap.size) (enc := encB) (e0 := false) sl66 info4 (fun _ => rfl) rfl rfl rfl (by omega) (by unfold maxLen; omega) (by omega) ?_)
  intro bt w23 hbbt hs25 ho24 hTk
  have hz27 := ho24.size
  replace hN := hN.ext ho24
  replace hE := hE.step ho24 (.inl (Nat.le_refl _))
  replace hb1 := hb1.ext ho24
  replace hP := hP.ext ho24
  refine st (asS rfl) ?_
  refine rg_end ?_
  refine n_then ?_
  refine wp_seq ?_
  refine wp_seq ?_
  refine rg ?_
  refine st (asI rfl) ?_
  refine rg_end ?_
  refine n_then ?_
  refine wp_block ?_
  refine lp (γ := Nat × List Int × (Int → Int) × List Bool × List Int) [6, 7, 8, 32, 33, 34, 35, 36, 37, 38, 39, 40, 41, 42, 43, 44, 45, 46, 47, 48, 49, 50, 51, 52, 53, 54, 55, 56, 57, 58, 59, 60, 61, 62, 63, 64] (fun ⟨sp, P, R, Tk, T⟩ => [(6, .int .i64 (sp : Int))]) (fun ⟨sp, P, R, Tk, T⟩ w_ => Out bp (bt + 1) w23 w_ ∧ (sp : Int) ≤ N.p ∧ RootOf N.evs.length P R ∧ Kr N R Tk T (fun i => spanA N i < (sp : Int)) ∧ Ow 3 encI 1 bp (bp + 1) w_ (some ⟨bp, 0, none⟩) N.evs.length P ∧ Ow 4 encB 1 bt (bt + 1) w_ (some ⟨bt, 0, none⟩) N.acts.length Tk) (fun ⟨sp, P, R, Tk, T⟩ => N.p.toNat - sp) (0, _, fun x => x, List.replicate N.acts.length false, []) ⟨rfl, trivial⟩ ⟨Out.refl _ _ _, by (try dsimp only); omega, hr0, (Kr.zero (D := fun _ => False) (fun _ h => h)).mono (fun i hi hd => by
  have hh := (hok.acs _ (el_mem (l := N.acts) (i := (i : Int)) (by omega) (by omega))).m1
  (try dsimp only at hd); unfold spanA at hd; omega), hP, hTk.lower (by omega)⟩ ?_
  rintro ⟨sp, P, R, Tk, T⟩ hav_ w28 ⟨ho29, hsp, hr, hkr, hP, hTk⟩
  have hlp1 := ho29
  have hz30 := ho29.size
  replace hN := hN.out ho29 (by first | omega | (simp only [blk_some, hi1_some] at *; omega))
  replace hE := hE.step ho29 (by first | omega | (simp only [blk_some, hi1_some] at *; omega))
  replace hb1 := hb1.out ho29 (by first | omega | (simp only [blk_some, hi1_some] at *; omega))
  refine wp_seq ?_
  refine wp_seq ?_
  refine rg ?_
  refine st (mvI rfl) ?_
  refine st (y_fld fld26_0 rfl) ?_
  refine st (y_lb hb1 na3 rfl rfl) ?_
  refine st (y_lss rfl rfl) ?_
  refine rg_end ?_
  refine n_then ?_
  refine cnd rfl (fun hc2 => ?_) (fun hc2 => ?_)
  ·
   try simp only [nm] at hc2
   refine wp_skip ?_
   refine n_then ?_
   refine wp_seq ?_
   refine wp_block ?_
   refine wp_seq ?_
   refine rg ?_
   refine st (asI rfl) ?_
   refine rg_end ?_
   refine n_then ?_
   refine wp_block ?_
   refine lp (γ := Nat × List Int × (Int → Int) × List Bool × List Int) [7, 8, 38, 39, 40, 41, 42, 43, 44, 45, 46, 47, 48, 49, 50, 51, 52, 53, 54, 55, 56, 57, 58, 59, 60, 61, 62, 63, 64] (fun ⟨k, P, R, Tk, T⟩ => [(7, .int .i64 (k : Int))]) (fun ⟨k, P, R, Tk, T⟩ w_ => Out bp (bt + 1) w28 w_ ∧ (k : Int) ≤ N.acts.length ∧ RootOf N.evs.length P R ∧ Kr N R Tk T (fun i => spanA N i < (sp : Int) ∨ (spanA N i = (sp : Int) ∧ i < k)) ∧ Ow 3 encI 1 bp (bp + 1) w_ (some ⟨bp, 0, none⟩) N.evs.length P ∧ Ow 4 encB 1 bt (bt + 1) w_ (some ⟨bt, 0, none⟩) N.acts.length Tk) (fun ⟨k, P, R, Tk, T⟩ => N.acts.length - k) (0, P, R, Tk, T) ⟨rfl, trivial⟩ ⟨Out.refl _ _ _, by simp, hr, hkr.mono (fun i hi hd => by (try dsimp only at hd ⊢); omega), hP, hTk⟩ ?_
   rintro ⟨k, P, R, Tk, T⟩ hav_ w31 ⟨ho32, hk, hr, hkr, hP, hTk⟩
   have hlp2 := ho32
   have hz33 := ho32.size
   replace hN := hN.out ho32 (by first | omega | (simp only [blk_some, hi1_some] at *; omega))
   replace hE := hE.step ho32 (by first | omega | (simp only [blk_some, hi1_some] at *; omega))
   replace hb1 := hb1.out ho32 (by first | omega | (simp only [blk_some, hi1_some] at *; omega))
   replace hlp1 := hlp1.step ho32 (by first | omega | (simp only [blk_some, hi1_some] at *; omega))
   refine wp_seq ?_
   refine wp_seq ?_
   refine rg ?_
   refine st (mvI rfl) ?_
   refine st (y_fld fld26_2 rfl) ?_
   refine st (y_lb hb1 na24 rfl rfl) ?_
   refine st (y_len Try.underlying24 rfl) ?_
   refine st (y_lss rfl rfl) ?_
   refine rg_end ?_
   refine n_then ?_
   refine cnd rfl (fun hc3 => ?_) (fun hc3 => ?_)
   ·
    try simp only [nm] at hc3
    have ha := hok.acs _ (el_mem (l := N.acts) (i := (k : Int)) (by omega) hc3)
    obtain ⟨f0, f1, t0, t1, ne, m0, m1, m2, m3, _, _⟩ := ha
    have hPl := hr.1
    have hTl := hkr.tl
    refine wp_skip ?_
    refine n_then ?_
    refine wp_seq ?_
    refine wp_block ?_
    refine wp_seq ?_
    refine rg ?_
    refine st (y_fld fld26_2 rfl) ?_
    refine st (y_lb hb1 na24 rfl rfl) ?_
    refine st (mvI rfl) ?_
    refine st (y_ix hN.a sl24 rfl (rfl) rfl (by omega) (by omega)) ?_
    refine st (y_lw hN.a agg43 rfl (by omega) (by omega)) ?_
    refine sd (d_allocA zer43 ?_)
    intro b8 w34 hbb8 hs36 ho35 hb8
    have hz37 := ho35.size
    replace hN := hN.ext ho35
    replace hE := hE.step ho35 (.inl (Nat.le_refl _))
    replace hb1 := hb1.ext ho35
    replace hlp1 := hlp1.step ho35 (.inl (Nat.le_refl _))
    replace hP := hP.ext ho35
    replace hTk := hTk.ext ho35
    replace hlp2 := hlp2.step ho35 (.inl (Nat.le_refl _))
    refine sd0 (d_stN hb8 rfl rfl sz43 rfl rfl ?_)
    intro w38 hs40 ho39 hb8'
    clear hb8; have hb8 := hb8'; clear hb8'
    have hz41 := ho39.size
    replace hN := hN.out ho39 (by first | omega | (simp only [blk_some, hi1_some] at *; omega))
    replace hE := hE.step ho39 (by first | omega | (simp only [blk_some, hi1_some] at *; omega))
    replace hb1 := hb1.out ho39 (by first | omega | (simp only [blk_some, hi1_some] at *; omega))
    replace hlp1 := hlp1.step ho39 (by first | omega | (simp only [blk_some, hi1_some] at *; omega))
    have hrnhP := hP.rng
    replace hP := hP.out ho39 (by first | omega | (simp only [blk_some, hi1_some] at *; omega))
    have hrnhTk := hTk.rng
    replace hTk := hTk.out ho39 (by first | omega | (simp only [blk_some, hi1_some] at *; omega))
    replace hlp2 := hlp2.step ho39 (by first | omega | (simp only [blk_some, hi1_some] at *; omega))
    refine rg_end ?_
    refine n_then ?_
    refine wp_seq ?_
    refine rg ?_
    refine st (y_fld fld43_4 rfl) ?_
    refine st (y_lb hb8 na3 rfl rfl) ?_
    refine st (y_fld fld43_3 rfl) ?_
    refine st (y_lb hb8 na3 rfl rfl) ?_
    refine st (y_sub rfl rfl (by omega)) ?_
    refine st (mvI rfl) ?_
    refine st (y_eql rfl rfl) ?_
    refine st (mvB rfl) ?_
    refine gspL 57 rfl (fun hg42 => ?_) (fun hg42 => ?_)
    ·
     have hg42n := hg42; try simp only [nm] at hg42n
     refine stg rfl rfl hg42 (mvS rfl) ?_
     refine stg rfl rfl hg42 (y_lbN hb8 agg43 rfl) ?_
     refine scg rfl rfl hg42 cl40 (ref11_merge_ok N.evs.length P R _ _ _ _ (el N.acts (k : Int)) _ hP hr (by omega) f0 f1 t0 t1) rfl ?_
     rintro v47 w43 ⟨P', rfl, hP'l, hP, hr1, ho44⟩
     have hz48 := ho44.size
     replace hN := hN.out ho44 (by first | omega | (simp only [blk_some, hi1_some] at *; omega))
     replace hE := hE.step ho44 (by first | omega | (simp only [blk_some, hi1_some] at *; omega))
     replace hb1 := hb1.out ho44 (by first | omega | (simp only [blk_some, hi1_some] at *; omega))
     replace hlp1 := hlp1.step ho44 (by first | omega | (simp only [blk_some, hi1_some] at *; omega))
     replace hTk := hTk.out ho44 (by first | omega | (simp only [blk_some, hi1_some] at *; omega))
     replace hlp2 := hlp2.step ho44 (by first | omega | (simp only [blk_some, hi1_some] at *; omega))
     replace hb8 := hb8.out ho44 (by first | omega | (simp only [blk_some, hi1_some] at *; omega))
     refine st (y_pickT rfl hg42 (v := .bool _) rfl) ?_
     refine rg_end ?_
     refine n_then ?_
     refine cnd rfl (fun hc4 => ?_) (fun hc4 => ?_)
     ·
      try simp only [nm] at hc4
      have hks : Kr N (nameR R (el N.acts (k : Int)).fr (el N.acts (k : Int)).tt) (Tk.set (k : Int).toNat true) (T ++ [(k : Int)]) (fun i => spanA N i < (sp : Int) ∨ (spanA N i = (sp : Int) ∧ i < k + 1)) := (hkr.take (k := k) (by omega) (hok.acs _ (el_mem (l := N.acts) (i := (k : Int)) (by omega) hc3)) hc4).mono (fun i hi hd => by (try dsimp only at hd ⊢); omega)
      have hkr1 := hks
      refine rg ?_
      refine st (mvS rfl) ?_
      refine st (mvI rfl) ?_
      refine st (y_ix hTk.sl sl66 rfl (hkr.tl.symm) rfl (by omega) (by omega)) ?_
      refine sd0 (d_se (j := 0) (e' := true) hTk sz4 rfl rfl rfl (by omega) (by omega) (Nat.le_of_ble_eq_true rfl) rfl ?_)
      intro w49 hs51 ho50 hTk'
      have hrhTk := hTk.rng
      clear hTk; have hTk := hTk'; clear hTk'
      have hz52 := ho50.size
      replace hN := hN.out ho50 (by first | omega | (simp only [blk_some, hi1_some] at *; omega))
      replace hE := hE.step ho50 (by first | omega | (simp only [blk_some, hi1_some] at *; omega))
      replace hb1 := hb1.out ho50 (by first | omega | (simp only [blk_some, hi1_some] at *; omega))
      replace hlp1 := hlp1.step ho50 (by first | omega | (simp only [blk_some, hi1_some] at *; omega))
      replace hP := hP.out ho50 (by first | omega | (simp only [blk_some, hi1_some] at *; omega))
      replace hlp2 := hlp2.step ho50 (by first | omega | (simp only [blk_some, hi1_some] at *; omega))
      replace hb8 := hb8.out ho50 (by first | omega | (simp only [blk_some, hi1_some] at *; omega))
      refine rg_end ?_
      refine n_blk ?_
      refine n_then ?_
      refine rg ?_
      refine st (mvI rfl) ?_
      refine st (y_add rfl rfl (by omega)) ?_
      refine st (asI rfl) ?_
      refine rg_end ?_
      exact n_then ⟨(k + 1, _, _, _, _), _, rfl, same_lk rfl (same_h0), ⟨rfl, trivial⟩, ⟨hlp2, by omega, hr1, hkr1, hP, hTk⟩, by first | omega | (dsimp only; omega)⟩
     ·
      try simp only [nm] at hc4
      first
      | (have hkr1 : Kr N (nameR R (el N.acts (k : Int)).fr (el N.acts (k : Int)).tt) Tk T (fun i => spanA N i < (sp : Int) ∨ (spanA N i = (sp : Int) ∧ i < k + 1)) := (hkr.same (k := k) (hok.acs _ (el_mem (l := N.acts) (i := (k : Int)) (by omega) hc3)) hc4).mono (fun i hi hd => by (try dsimp only at hd ⊢); omega))
      | skip
      refine wp_skip ?_
      refine n_blk ?_
      refine n_then ?_
      refine rg ?_
      refine st (mvI rfl) ?_
      refine st (y_add rfl rfl (by omega)) ?_
      refine st (asI rfl) ?_
      refine rg_end ?_
      exact n_then ⟨(k + 1, _, _, _, _), _, rfl, same_lk rfl (same_h0), ⟨rfl, trivial⟩, ⟨hlp2, by omega, hr1, hkr1, hP, hTk⟩, by first | omega | (dsimp only; omega)⟩
    ·
     have hg42n := hg42; try simp only [nm] at hg42n
     have hr1 := hr
     have hkr1 : Kr N R Tk T (fun i => spanA N i < (sp : Int) ∨ (spanA N i = (sp : Int) ∧ i < k + 1)) := hkr.mono (fun i hi hd => by
       (try dsimp only at hd ⊢)
       by_cases e : i = k
       · subst e; unfold spanA at *; omega
       · omega)
     refine sts rfl rfl hg42 ?_
     refine sts rfl rfl hg42 ?_
     refine sts rfl rfl hg42 ?_
     refine st (y_pickF rfl hg42 (v := .bool _) rfl) ?_
     refine rg_end ?_
     refine n_then ?_
     refine cnd rfl (fun hc4 => absurd hc4 (by decide)) (fun hc4 => ?_)
     first
     | (have hkr1 : Kr N (nameR R (el N.acts (k : Int)).fr (el N.acts (k : Int)).tt) Tk T (fun i => spanA N i < (sp : Int) ∨ (spanA N i = (sp : Int) ∧ i < k + 1)) := (hkr.same (k := k) (hok.acs _ (el_mem (l := N.acts) (i := (k : Int)) (by omega) hc3)) hc4).mono (fun i hi hd => by (try dsimp only at hd ⊢); omega))
     | skip
     refine wp_skip ?_
     refine n_blk ?_
     refine n_then ?_
     refine rg ?_
     refine st (mvI rfl) ?_
     refine st (y_add rfl rfl (by omega)) ?_
     refine st (asI rfl) ?_
     refine rg_end ?_
     exact n_then ⟨(k + 1, _, _, _, _), _, rfl, same_lk rfl (same_h0), ⟨rfl, trivial⟩, ⟨hlp2, by omega, hr1, hkr1, hP, hTk⟩, by first | omega | (dsimp only; omega)⟩
   ·
    try simp only [nm] at hc3
    have hkr1 : Kr N R Tk T (fun i => spanA N i < ((sp + 1 : Nat) : Int)) := hkr.mono (fun i hi hd => by (try dsimp only at hd ⊢); omega)
    refine wp_exit ?_
    refine e_then (e_then (e_blk (?_)))
    refine n_blk ?_
    refine n_then ?_
    refine rg ?_
    refine st (mvI rfl) ?_
    refine st (y_add rfl rfl (by omega)) ?_
    refine st (asI rfl) ?_
    refine rg_end ?_
    exact n_then ⟨(sp + 1, _, _, _, _), _, rfl, same_lk rfl (same_hav rfl (same_lk rfl (same_h0))), ⟨rfl, trivial⟩, ⟨hlp1, by omega, hr, hkr1, hP, hTk⟩, by first | omega | (dsimp only; omega)⟩
  ·
   try simp only [nm] at hc2
   have hspp : (sp : Int) = N.p := by omega
   refine wp_exit ?_
   refine e_then (e_then (e_blk (?_)))
   refine n_then ?_
   refine wp_seq ?_
   refine rg ?_
   refine st (asS rfl) ?_
   refine rg_end ?_
   refine n_then ?_
   refine wp_seq ?_
   refine wp_seq ?_
   refine rg ?_
   refine st (mvS rfl) ?_
   refine st (y_len Try.underlying66 rfl) ?_
   refine st (mvI rfl) ?_
   refine rg_end ?_
   refine n_then ?_
   refine wp_block ?_
   obtain ⟨z3, hz3⟩ : ∃ z, z = w28.heap.size := ⟨_, rfl⟩
   have hTl3 := hkr.tl
   refine lp (γ := Nat × List Int × Option Addr × Nat) [9, 10, 67, 68, 69, 70, 71, 72, 73, 74, 75, 76, 77, 78] (fun ⟨k, ls, ao, co⟩ => [(67, .int .i64 (k : Int)), (9, .slice ao ls.length co)]) (fun ⟨k, ls, ao, co⟩ w_ => Ext w28 w_ ∧ (k : Int) ≤ N.acts.length ∧ ls = tkTo Tk k ∧ Ow 3 encI 1 z3 w_.heap.size w_ ao co ls) (fun ⟨k, ls, ao, co⟩ => N.acts.length - k) (0, [], none, 0) ⟨rfl, rfl, trivial⟩ ⟨Out.refl _ _ _, by simp, rfl, Ow.nil (fun _ => rfl)⟩ ?_
   rintro ⟨k, ls, ao, co⟩ hav_ w53 ⟨ho54, hk, hls, hO⟩
   have hlp3 := ho54
   have hz55 := ho54.size
   replace hN := hN.ext ho54
   replace hE := hE.step ho54 (.inl (Nat.le_refl _))
   replace hb1 := hb1.ext ho54
   replace hP := hP.ext ho54
   replace hTk := hTk.ext ho54
   refine wp_seq ?_
   refine rg ?_
   refine st (y_lss rfl rfl) ?_
   refine rg_end ?_
   refine n_then ?_
   refine wp_seq ?_
   refine cnd rfl (fun hc5 => ?_) (fun hc5 => ?_)
   ·
    try simp only [nm] at hc5
    have hlk : (ls.length : Int) ≤ k := by have h1 := tkTo_len (b := Tk) k (by omega); have h2 : (Tk.take k).count true ≤ (Tk.take k).length := List.count_le_length; rw [List.length_take] at h2; rw [hls]; omega
    refine wp_skip ?_
    refine n_then ?_
    refine wp_seq ?_
    refine wp_block ?_
    refine wp_seq ?_
    refine rg ?_
    refine st (mvI rfl) ?_
    refine st (asI rfl) ?_
    refine rg_end ?_
    refine n_then ?_
    refine wp_seq ?_
    refine rg ?_
    refine st (mvS rfl) ?_
    refine st (mvI rfl) ?_
    refine st (y_ix hTk.sl sl66 rfl (hkr.tl.symm) rfl (by omega) (by omega)) ?_
    refine st (y_le hTk.sl na4 rfl (by omega) (by omega) rfl) ?_
    refine rg_end ?_
    refine n_then ?_
    refine cnd rfl (fun hc6 => ?_) (fun hc6 => ?_)
    ·
     try simp only [nm] at hc6
     have hls1 : ls ++ [(k : Int)] = tkTo Tk (k + 1) := by rw [tkTo, if_pos hc6, hls]
     refine rg ?_
     refine st (mvS rfl) ?_
     refine st (mvI rfl) ?_
     refine sd (d_bs (bsl22_1 _ _) rfl ?_)
     intro bl59 w56 hbbl59 hs58 ho57 hbl59
     have hz60 := ho57.size
     replace hN := hN.ext ho57
     replace hE := hE.step ho57 (.inl (Nat.le_refl _))
     replace hb1 := hb1.ext ho57
     replace hP := hP.ext ho57
     replace hTk := hTk.ext ho57
     replace hO := hO.ext ho57
     replace hlp3 := hlp3.step ho57 (.inl (Nat.le_refl _))
     have hrhO := hO.rng
     refine sd (d_app (xs := [(k : Int)]) hO sl22 infoz3 (by decide) rfl rfl rfl rfl (hbl59) (fun _ => rfl) (by simp; unfold maxLen; omega) (by simp; omega) (by omega) (by omega) ?_)
     intro ao1 co1 w61 ho62 hO'
     have hs63 := ho62.size
     clear hO; have hO := hO'; clear hO'
     have hz66 := ho62.size
     replace hN := hN.out ho62 (by first | omega | (simp only [blk_some, hi1_some] at *; omega))
     replace hE := hE.step ho62 (by first | omega | (simp only [blk_some, hi1_some] at *; omega))
     replace hb1 := hb1.out ho62 (by first | omega | (simp only [blk_some, hi1_some] at *; omega))
     have hrnhP := hP.rng
     replace hP := hP.out ho62 (by first | omega | (simp only [blk_some, hi1_some] at *; omega))
     have hrnhTk := hTk.rng
     replace hTk := hTk.out ho62 (by first | omega | (simp only [blk_some, hi1_some] at *; omega))
     replace hlp3 := hlp3.step ho62 (by first | omega | (simp only [blk_some, hi1_some] at *; omega))
     refine st (asS rfl) ?_
     refine rg_end ?_
     refine n_blk ?_
     refine n_then ?_
     refine rg ?_
     refine st (y_add rfl rfl (by omega)) ?_
     refine st (mvI rfl) ?_
     refine rg_end ?_
     exact n_then ⟨(k + 1, _, _, _), _, rfl, same_lk rfl (same_h0), ⟨rfl, rfl, trivial⟩, ⟨hlp3, by omega, hls1, hO.wide (by omega)⟩, by first | omega | (dsimp only; omega)⟩
    ·
     try simp only [nm] at hc6
     have hls1 : ls = tkTo Tk (k + 1) := by rw [tkTo, if_neg (by rw [hc6]; decide), hls]
     refine wp_skip ?_
     refine n_blk ?_
     refine n_then ?_
     refine rg ?_
     refine st (y_add rfl rfl (by omega)) ?_
     refine st (mvI rfl) ?_
     refine rg_end ?_
     exact n_then ⟨(k + 1, _, _, _), _, rfl, same_lk rfl (same_h0), ⟨rfl, rfl, trivial⟩, ⟨hlp3, by omega, hls1, hO.wide (by omega)⟩, by first | omega | (dsimp only; omega)⟩
   ·
    try simp only [nm] at hc5
    have hke : k = N.acts.length := by omega
    subst hke
    have hfo : FoOk N ls := by rw [hls]; exact hkr.done hok (fun i hi => by
      have hh := hok.acs _ (el_mem (l := N.acts) (i := (i : Int)) (by omega) (by omega))
      have h1 := hh.m3
      have h2 := hh.m2
      show spanA N i < (sp : Int)
      unfold spanA; omega)
    have hlk : (ls.length : Int) ≤ 512 := by have h1 := tkTo_len (b := Tk) N.acts.length (by have := hkr.tl; omega); have h2 : (Tk.take N.acts.length).count true ≤ (Tk.take N.acts.length).length := List.count_le_length; rw [List.length_take] at h2; rw [hls]; omega
    refine wp_exit ?_
    refine e_then (e_then (e_blk (?_)))
    refine n_then ?_
    refine wp_seq ?_
    refine rg ?_
    refine st (mvS rfl) ?_
    refine st (asS rfl) ?_
    refine rg_end ?_
    refine n_then ?_
    refine wp_ret ?_
    refine ret1 (v := (.slice _ _ _)) Try.results13 rfl ?_
    exact ⟨ao, co, ls, rfl, Sl.wide (Ow.sl hO) (by omega) (by omega), hfo, hlk, hO.lenLe, hE⟩
end Go.Proofs.Ytdgkaahghlbocaa
