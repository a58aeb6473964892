/-
  Walks of the functions, printed by a program out of the code and the loops' relations.
-/
import Derived.Test.YtdgkaahghlbocaaWkV
import Derived.Test.YtdgkaahghlbocaaProg
import Derived.KernelRfl
import Derived.Test.YtdgkaahghlbocaaS4
import Derived.Test.YtdgkaahghlbocaaSn
namespace Go.Proofs.Ytdgkaahghlbocaa
open Go.Wk Go.RowKit
set_option linter.unusedVariables false
set_option linter.unusedSimpArgs false
theorem cl57 : Callable Try.prog 57 := ⟨Try.call57⟩
theorem cl58 : Callable Try.prog 58 := ⟨Try.call58⟩
theorem cl59 : Callable Try.prog 59 := ⟨Try.call59⟩
theorem cl60 : Callable Try.prog 60 := ⟨Try.call60⟩
theorem na62 : NotAgg Try.prog 62 := Try.isAgg62
theorem sz62 : SzOf Try.prog 62 1 := Try.sizeOf62
theorem zer62 : ZeroOf Try.prog 62 (.nilFunc) := Try.zeroValue62

theorem flatI (l : List Int) : l.flatMap Wk.encI = l.map (fun x => Value.int .i64 x) := by
  induction l with
  | nil => rfl
  | cons x l ih => rw [List.flatMap_cons, ih]; rfl
theorem sort_out (w : World) (q g : Nat) (d : Array Int) (os : Array Obj) : Out g (g + 1) w (Sort.grow (Sort.putRow (Value.int .i64) (Sort.ahead w q) g 0 d) os) :=
  ⟨rfl, rfl, rfl, by simp [Sort.grow, Sort.putRow, Sort.mapBlock, Sort.ahead], fun k hk hs => by
    simp only [Sort.grow, Sort.putRow, Sort.mapBlock, Sort.ahead]
    rw [Array.getElem?_append_left (by simpa using hk), Array.getElem?_modify, if_neg (by omega)]⟩
theorem sort_ok (ad : Option Addr) (c : Nat) (l : List Int) (lo hi : Nat) (w : World) (hO : Ow 3 Wk.encI 1 lo hi w ad c l) (hne : l ≠ []) (hbig : l.length ≤ 1000000) :
    Cal Try.prog 60 [.slice ad l.length c] w (fun v w' => Ow 3 Wk.encI 1 lo hi w' ad c (l.mergeSort (fun x y => decide (x ≤ y))) ∧ Out (blk ad) (hi1 ad) w w') := by
  have hsl := hO.sl
  have ho := hO.owns
  have htop := hO.top
  obtain ⟨hlen, ⟨hv, h0⟩ | ⟨g, cap, cur, hv, hg, hb, hnc, hcm, hsz, htk⟩⟩ := ho
  · exact absurd (List.eq_nil_of_length_eq_zero h0) hne
  · injection hv with e1 e2 e3
    subst e1; subst e3
    have hlt := (Array.getElem?_eq_some_iff.1 hb).1
    have hH : Sort.Holds (Value.int .i64) w g 0 l.toArray := fun j hj => by
      have hj' : j < l.length := by simpa using hj
      have hq := hsl.cell j l[j] (List.getElem?_eq_getElem hj') 0 (.int .i64 l[j]) rfl
      refine ⟨?_, by simp [World.frozen?, hb]⟩
      have e : (l.toArray)[j]! = l[j] := by simp [hj']
      rw [e]
      simpa [blk, off] using hq
    have h := Any.slices_Sort_int Try.laysSort g 0 c l w hH hlt (by omega)
    refine Calls.mono h ?_
    rintro e w' ⟨rfl, q, os, rfl⟩
    have hS := List.length_mergeSort (le := fun x y => decide (x ≤ y)) l
    generalize l.mergeSort (fun x y => decide (x ≤ y)) = S at hS ⊢
    refine ⟨_, rfl, ⟨⟨by rw [flatI]; simp, .inr ⟨g, c, Sort.putCells (Value.int .i64) 0 S.toArray cur, rfl, hg, ?_, by omega, hcm, by simp [Sort.putCells, hsz], ?_⟩⟩, hO.len, htop⟩, sort_out w q g _ os⟩
    · simp only [Sort.grow, Sort.putRow, Sort.mapBlock, Sort.ahead]
      rw [Array.getElem?_append_left (by simpa using hlt), Array.getElem?_modify, if_pos rfl, hb]
      rfl
    · rw [flatI]
      apply List.ext_getElem?
      intro j
      by_cases hj : j < S.length
      · rw [List.getElem?_take_of_lt (by omega), Array.getElem?_toList, List.getElem?_map, List.getElem?_eq_getElem hj]
        simp only [Sort.putCells, Array.getElem?_mapIdx]
        rw [Array.getElem?_eq_getElem (by rw [hsz]; omega)]
        simp [hj]
      · rw [List.getElem?_eq_none (by rw [List.length_take]; omega), List.getElem?_eq_none (by rw [List.length_map]; omega)]

theorem sort0_ok (ad : Option Addr) (c : Nat) (w : World) : Cal Try.prog 60 [.slice ad 0 c] w (fun v w' => v = .tuple #[] ∧ Ext w w') := by
  refine Calls.mono (Any.slices_Sort_int_none Try.laysSort ad c w) ?_
  rintro e w' ⟨rfl, rfl⟩
  exact ⟨_, rfl, rfl, Ext.refl _⟩
theorem sortA_ok (ad : Option Addr) (c : Nat) (l : List Int) (lo hi : Nat) (w : World) (hO : Ow 3 Wk.encI 1 lo hi w ad c l) (hbig : l.length ≤ 1000000) :
    Cal Try.prog 60 [.slice ad l.length c] w (fun v w' => Ow 3 Wk.encI 1 lo hi w' ad c (l.mergeSort (fun x y => decide (x ≤ y))) ∧ Out (blk ad) (hi1 ad) w w') := by
  by_cases e : l = []
  · subst e
    refine Cal.mono (sort0_ok ad c w) ?_
    rintro v w' ⟨rfl, he⟩
    exact ⟨by simpa using hO.ext he, he.wide (.inl (Nat.le_refl _))⟩
  · exact sort_ok ad c l lo hi w hO e hbig
theorem join_same {R : Int → Int} {a b : Int} (h : R a = R b) : joinR R a b = R := by
  funext x
  unfold joinR
  by_cases c : R x = max (R a) (R b)
  · rw [if_pos c, c, h]; omega
  · rw [if_neg c]
theorem tells_same {n : Nat} {R : Int → Int} {K : Int → Int → Bool} (h : Tells n R K) {a b : Int} (a0 : 0 ≤ a) (a1 : a < n) (b0 : 0 ≤ b) (b1 : b < n) (hk : K a b = true) : Tells n (joinR R a b) K := by
  rw [join_same ((h a b a0 a1 b0 b1).1 hk)]; exact h
def wdA (N : Net) (x : Int) : Int := (el N.acts x).mx - (el N.acts x).mn
theorem wdA_nat (N : Net) (i : Nat) : wdA N (i : Int) = spanA N i := rfl
/-- All activities in the order in which the forest looks at them. -/
structure OrdK (N : Net) (O : List Int) : Prop where
  len : O.length = N.acts.length
  val : ValR N.acts.length N.acts.length O
  srt : SrtR (wdA N) O 0 N.acts.length
theorem ltW.irr {wd : Int → Int} {x : Int} : ¬ ltW wd x x := fun h => by unfold ltW at h; omega
theorem OrdK.inj {N : Net} {O : List Int} (h : OrdK N O) {i j : Nat} (hi : i < N.acts.length) (hj : j < N.acts.length) (e : el O (i : Int) = el O (j : Int)) : i = j := by
  rcases Nat.lt_trichotomy i j with c | c | c
  · have := h.srt i j (by omega) (by omega) (by omega); rw [e] at this; exact absurd this ltW.irr
  · exact c
  · have := h.srt j i (by omega) (by omega) (by omega); rw [e] at this; exact absurd this ltW.irr
theorem OrdK.hit {N : Net} {O : List Int} (h : OrdK N O) {x : Int} (x0 : 0 ≤ x) (x1 : x < N.acts.length) : ∃ q : Nat, q < N.acts.length ∧ el O (q : Int) = x := by
  by_cases hx : ∃ q : Nat, q < N.acts.length ∧ el O (q : Int) = x
  · exact hx
  · have := inj_len (n := N.acts.length) (N.acts.length + 1) (fun q => if q = N.acts.length then x else el O (q : Int)) (fun q hq => by
      by_cases e : q = N.acts.length
      · rw [if_pos e]; exact ⟨x0, x1⟩
      · rw [if_neg e]; exact h.val q (by omega) (by omega)) (fun i j hi hj he => by
      (try dsimp only at he)
      rw [if_neg (by omega)] at he
      by_cases e : j = N.acts.length
      · rw [if_pos e] at he; exact hx ⟨i, by omega, he⟩
      · rw [if_neg e] at he
        have := h.inj (by omega) (by omega) he
        omega)
    omega
/-- What has been taken out of the first 'k' of the order. -/
structure Kc (N : Net) (O : List Int) (k : Nat) (T : List Int) : Prop where
  sub : ∀ x ∈ T, ∃ q : Nat, q < k ∧ el O (q : Int) = x
  new : ∀ q : Nat, q < T.length → conB ((T.take q).map (el N.acts)) (el N.acts (el T (q : Int))).fr (el N.acts (el T (q : Int))).tt = false
  don : ∀ q : Nat, q < k → conB (T.map (el N.acts)) (el N.acts (el O (q : Int))).fr (el N.acts (el O (q : Int))).tt = true
  lst : ∀ q : Nat, q < k → (el O (q : Int) ∈ T ↔ conB (befL N (el O (q : Int)).toNat) (el N.acts (el O (q : Int))).fr (el N.acts (el O (q : Int))).tt = false)
  nd : T.Nodup
  le : T.length ≤ k
theorem Kc.zero {N : Net} {O : List Int} : Kc N O 0 [] := ⟨fun x hx => (by cases hx), fun q hq => (by simp at hq), fun q hq => by omega, fun q hq => by omega, List.nodup_nil, Nat.le_refl _⟩
theorem Kc.bef {N : Net} {O T : List Int} {k : Nat} (h : Kc N O k T) (ho : OrdK N O) (hk : k < N.acts.length) (x y : Int) : conB (T.map (el N.acts)) x y = conB (befL N (el O (k : Int)).toNat) x y := by
  have hv := ho.val k (by omega) (by omega)
  have hs : ∀ j : Nat, j < N.acts.length → ((spanA N j < spanA N (el O (k : Int)).toNat ∨ (spanA N j = spanA N (el O (k : Int)).toNat ∧ j < (el O (k : Int)).toNat)) ↔ ltW (wdA N) (j : Int) (el O (k : Int))) := fun j hj => by
    unfold ltW
    rw [wdA_nat, ← wdA_nat N (el O (k : Int)).toNat, Int.toNat_of_nonneg hv.1]
    constructor <;> rintro (q | q)
    · exact .inl q
    · exact .inr ⟨q.1, by omega⟩
    · exact .inl q
    · exact .inr ⟨q.1, by omega⟩
  rw [Bool.eq_iff_iff]
  constructor
  · intro hc
    refine con_sub (fun a ha => ?_) hc
    obtain ⟨z, hz, rfl⟩ := List.mem_map.1 ha
    obtain ⟨q, hq, rfl⟩ := h.sub z hz
    have hr := ho.val q (by omega) (by omega)
    refine con_mem (List.mem_map.2 ⟨(el O (q : Int)).toNat, List.mem_filter.2 ⟨List.mem_range.2 (by omega), ?_⟩, by rw [Int.toNat_of_nonneg hr.1]⟩)
    refine decide_eq_true ((hs _ (by omega)).2 ?_)
    rw [Int.toNat_of_nonneg hr.1]
    exact ho.srt q k (by omega) (by omega) (by omega)
  · intro hc
    refine con_sub (fun a ha => ?_) hc
    obtain ⟨j, hj, rfl⟩ := List.mem_map.1 ha
    obtain ⟨h1, h2⟩ := List.mem_filter.1 hj
    have hj' := List.mem_range.1 h1
    have hlt := (hs j hj').1 (of_decide_eq_true h2)
    obtain ⟨q, hq, e⟩ := ho.hit (x := (j : Int)) (by omega) (by omega)
    have hqk : q < k := by
      rcases Nat.lt_trichotomy q k with c | c | c
      · exact c
      · subst c; rw [e] at hlt; exact absurd hlt ltW.irr
      · have := ho.srt k q (by omega) (by omega) (by omega)
        rw [e] at this
        exact absurd (this.trans hlt) ltW.irr
    rw [← e]; exact h.don q hqk
theorem Kc.take {N : Net} {O T : List Int} {k : Nat} (h : Kc N O k T) (ho : OrdK N O) (hk : k < N.acts.length) (hc : conB (T.map (el N.acts)) (el N.acts (el O (k : Int))).fr (el N.acts (el O (k : Int))).tt = false) : Kc N O (k + 1) (T ++ [el O (k : Int)]) := by
  have hb := h.bef ho hk (el N.acts (el O (k : Int))).fr (el N.acts (el O (k : Int))).tt
  rw [hc] at hb
  have hnm : ¬ el O (k : Int) ∈ T := fun hm => by
    rw [con_mem (List.mem_map.2 ⟨_, hm, rfl⟩)] at hc; cases hc
  have hmap : (T ++ [el O (k : Int)]).map (el N.acts) = T.map (el N.acts) ++ [el N.acts (el O (k : Int))] := by simp
  refine ⟨fun x hx => ?_, fun q hq => ?_, fun q hq => ?_, fun q hq => ?_, ?_, by simp; exact h.le⟩
  · rcases List.mem_append.1 hx with hx | hx
    · obtain ⟨q, q1, q2⟩ := h.sub x hx; exact ⟨q, by omega, q2⟩
    · exact ⟨k, by omega, (List.mem_singleton.1 hx).symm⟩
  · rw [List.length_append, List.length_singleton] at hq
    by_cases e : q = T.length
    · subst e; rw [el_app2, List.take_left]; exact hc
    · rw [el_app1 (by omega), List.take_append_of_le_length (by omega)]; exact h.new q (by omega)
  · rw [hmap]
    by_cases e : q = k
    · subst e; exact con_mem (List.mem_append.2 (.inr (List.mem_singleton.2 rfl)))
    · exact con_sub (fun a ha => con_mem (List.mem_append.2 (.inl ha))) (h.don q (by omega))
  · by_cases e : q = k
    · subst e; rw [← hb]; simp
    · have hne : el O (q : Int) ≠ el O (k : Int) := fun z => e (ho.inj (by omega) hk z)
      rw [← h.lst q (by omega), List.mem_append, List.mem_singleton]
      exact ⟨fun z => z.resolve_right hne, .inl⟩
  · rw [List.nodup_append]
    refine ⟨h.nd, by simp, fun a ha b hb' => ?_⟩
    rw [List.mem_singleton.1 hb']; intro q; exact hnm (q ▸ ha)
theorem Kc.pass {N : Net} {O T : List Int} {k : Nat} (h : Kc N O k T) (ho : OrdK N O) (hk : k < N.acts.length) (hc : conB (T.map (el N.acts)) (el N.acts (el O (k : Int))).fr (el N.acts (el O (k : Int))).tt = true) : Kc N O (k + 1) T := by
  have hb := h.bef ho hk (el N.acts (el O (k : Int))).fr (el N.acts (el O (k : Int))).tt
  rw [hc] at hb
  have hnm : ¬ el O (k : Int) ∈ T := fun hm => by
    obtain ⟨q, q1, q2⟩ := h.sub _ hm
    have := ho.inj (by omega) hk q2; omega
  refine ⟨fun x hx => ?_, h.new, fun q hq => ?_, fun q hq => ?_, h.nd, Nat.le_succ_of_le h.le⟩
  · obtain ⟨q, q1, q2⟩ := h.sub x hx; exact ⟨q, by omega, q2⟩
  · by_cases e : q = k
    · subst e; exact hc
    · exact h.don q (by omega)
  · by_cases e : q = k
    · subst e; rw [← hb]; simp [hnm]
    · exact h.lst q (by omega)
theorem trX_mem {N : Net} {x : Int} : x ∈ trX N ↔ (0 ≤ x ∧ x < N.acts.length) ∧ conB (befL N x.toNat) (el N.acts x).fr (el N.acts x).tt = false := by
  unfold trX
  rw [List.mem_map]
  constructor
  · rintro ⟨i, hi, rfl⟩
    obtain ⟨h1, h2⟩ := List.mem_filter.1 hi
    have := List.mem_range.1 h1
    exact ⟨by omega, by simpa using h2⟩
  · rintro ⟨h1, h2⟩
    refine ⟨x.toNat, List.mem_filter.2 ⟨List.mem_range.2 (by omega), ?_⟩, Int.toNat_of_nonneg h1.1⟩
    rw [Int.toNat_of_nonneg h1.1, h2]; rfl
theorem trX_asc (N : Net) : (trX N).Pairwise (fun x y => x < y) := by
  unfold trX
  rw [List.pairwise_map]
  refine List.Pairwise.filter _ (List.Pairwise.imp (fun h => by omega) List.pairwise_lt_range)
theorem trX_nd (N : Net) : (trX N).Nodup := (trX_asc N).imp (fun h => by omega)
theorem Kc.all {N : Net} {O T : List Int} (h : Kc N O N.acts.length T) (ho : OrdK N O) (x : Int) : x ∈ T ↔ x ∈ trX N := by
  rw [trX_mem]
  constructor
  · intro hx
    obtain ⟨q, q1, rfl⟩ := h.sub x hx
    exact ⟨ho.val q (by omega) (by omega), (h.lst q q1).1 hx⟩
  · rintro ⟨h1, h2⟩
    obtain ⟨q, q1, rfl⟩ := ho.hit h1.1 h1.2
    exact (h.lst q q1).2 h2
theorem Kc.perm {N : Net} {O T : List Int} (h : Kc N O N.acts.length T) (ho : OrdK N O) : T.Perm (trX N) := (List.perm_ext_iff_of_nodup h.nd (trX_nd N)).2 (fun x => h.all ho x)
theorem Kc.sort {N : Net} {O T : List Int} (h : Kc N O N.acts.length T) (ho : OrdK N O) : T.mergeSort (fun x y => decide (x ≤ y)) = trX N := by
  have hp := List.mergeSort_perm T (fun x y => decide (x ≤ y))
  have hs := List.pairwise_mergeSort (le := fun x y : Int => decide (x ≤ y)) (fun a b c h1 h2 => by simp at h1 h2 ⊢; omega) (fun a b => by simp; omega) T
  refine List.Perm.eq_of_pairwise (le := fun x y : Int => decide (x ≤ y) = true) (fun a b _ _ h1 h2 => by simp at h1 h2; omega) hs ?_ (hp.trans (h.perm ho))
  exact (trX_asc N).imp (fun q => decide_eq_true (by omega))
theorem Kc.forest {N : Net} {O T : List Int} (hN : NetOk N) (h : Kc N O N.acts.length T) (ho : OrdK N O) : FoOk N (trX N) := by
  have hp := h.perm ho
  have hin : ∀ a ∈ T.map (el N.acts), AcIn N.evs.length a := fun a ha => by
    obtain ⟨x, hx, rfl⟩ := List.mem_map.1 ha
    have hr := (trX_mem.1 ((h.all ho x).1 hx)).1
    have ok := hN.acs _ (el_mem hr.1 hr.2)
    exact ⟨ok.f0, ok.f1, ok.t0, ok.t1⟩
  have m1 : ∀ a ∈ T.map (el N.acts), a ∈ (trX N).map (el N.acts) := fun a ha => by
    obtain ⟨x, hx, rfl⟩ := List.mem_map.1 ha
    exact List.mem_map.2 ⟨x, (h.all ho x).1 hx, rfl⟩
  have m2 : ∀ a ∈ (trX N).map (el N.acts), a ∈ T.map (el N.acts) := fun a ha => by
    obtain ⟨x, hx, rfl⟩ := List.mem_map.1 ha
    exact List.mem_map.2 ⟨x, (h.all ho x).2 hx, rfl⟩
  have np := new_perm hin m1 m2 (by rw [List.length_map, List.length_map, hp.length_eq]) (fun q hq => by
    rw [List.length_map] at hq
    rw [← List.map_take, elMapT (by omega) (by omega)]; exact h.new q hq)
  refine ⟨hN, ⟨fun q hq => ?_, fun q hq => ?_, fun q hq => ?_⟩, fun i hi => ?_⟩
  · exact (trX_mem.1 (el_mem (l := trX N) (i := (q : Int)) (by omega) (by omega))).1
  · have := List.pairwise_iff_getElem.1 (trX_asc N) q (q + 1) (by omega) hq (by omega)
    simpa [el, hq, show q < (trX N).length by omega] using this
  · have := np q (by rw [List.length_map]; exact hq)
    rwa [← List.map_take, elMapT (by omega) (by omega)] at this
  · rw [← con_ext m1 m2]
    obtain ⟨q, q1, q2⟩ := ho.hit (x := (i : Int)) (by omega) (by omega)
    rw [← q2]; exact h.don q q1

set_option maxRecDepth 100000 in
theorem tree_w_ok (N : Net) (A : NetA) (lo hi bn : Nat) (i : Int) (w : World) (hbn : Blk w bn (netCells N A)) (hN : NetIn lo hi w N A) (hok : NetOk N) (i0 : 0 ≤ i) (i1 : i < N.acts.length) : Cal Try.prog 57 [.int .i64 i, .pointer (some ⟨bn, 0, none⟩)] w (fun v w' => v = .int .i64 (wdA N i) ∧ Ext w w') := by
 have ha := hok.acs _ (el_mem i0 i1)
 obtain ⟨f0, f1, t0, t1, ne, m0, m1, m2, m3, _, _⟩ := ha
 have hE : Out 0 0 w w := Out.refl _ _ w
 refine enter Try.func57 rfl Try.ntmps57 rfl ?_
 refine wp_seq ?_
 refine rg ?_
 refine st (asI rfl) ?_
 refine rg_end ?_
 refine n_then ?_
 refine wp_seq ?_
 refine rgD 12 (fun w_ => Ext w w_) (fun i => false) mixed (by kernel_rfl) ?_
 intro w1 ho2 hs3
 refine ⟨ho2, ?_⟩
 have hx4 := ho2
 refine tn rfl (fun _ hG => y_fld fld26_2 rfl) ?_
 refine tn rfl (fun _ hG => y_lb (hbn.ext hG) na24 rfl rfl) ?_
 refine tn rfl (fun _ hG => mvI rfl) ?_
 refine tn rfl (fun _ hG => y_ix (hN.a.ext hG) sl24 rfl (rfl) rfl (by omega) (by omega)) ?_
 refine tn rfl (fun _ hG => y_fld fld43_4 rfl) ?_
 refine tn rfl (fun _ hG => y_lf (hN.a.ext hG) na3 rfl (by omega) (by omega) rfl) ?_
 refine tn rfl (fun _ hG => y_fld fld26_2 rfl) ?_
 refine tn rfl (fun _ hG => y_lb (hbn.ext hG) na24 rfl rfl) ?_
 refine tn rfl (fun _ hG => mvI rfl) ?_
 refine tn rfl (fun _ hG => y_ix (hN.a.ext hG) sl24 rfl (rfl) rfl (by omega) (by omega)) ?_
 refine tn rfl (fun _ hG => y_fld fld43_3 rfl) ?_
 refine tn rfl (fun _ hG => y_lf (hN.a.ext hG) na3 rfl (by omega) (by omega) rfl) ?_
 refine t_end ?_
 have hz5 := hx4.size
 replace hbn := hbn.ext hx4
 replace hN := hN.ext hx4
 replace hE := hE.step hx4 (.inl (Nat.le_refl _))
 refine st (y_sub rfl rfl (by omega)) ?_
 refine st (asI rfl) ?_
 refine rg_end ?_
 refine n_then ?_
 refine wp_ret ?_
 refine ret1 (v := (.int .i64 _)) Try.results57 rfl ?_
 exact ⟨rfl, hE⟩

set_option maxRecDepth 100000 in
theorem tree_c_ok (N : Net) (A : NetA) (lo hi bn bw : Nat) (i j : Int) (w : World) (hbn : Blk w bn (netCells N A)) (hbw : Blk w bw [.func (.func 57) #[] [.pointer (some ⟨bn, 0, none⟩)].toArray]) (hN : NetIn lo hi w N A) (hok : NetOk N) (i0 : 0 ≤ i) (i1 : i < N.acts.length) (j0 : 0 ≤ j) (j1 : j < N.acts.length) : Cal Try.prog 59 [.int .i64 i, .int .i64 j, .pointer (some ⟨bw, 0, none⟩)] w (fun v w' => v = .int .i64 (wdA N i - wdA N j) ∧ Ext w w') := by
 have hi_ := hok.acs _ (el_mem i0 i1)
 have hj_ := hok.acs _ (el_mem j0 j1)
 have wi : 0 ≤ wdA N i ∧ wdA N i ≤ 65536 := by have := hi_.m0; have := hi_.m1; have := hi_.m2; have := hi_.m3; have := hok.p7; unfold wdA; omega
 have wj : 0 ≤ wdA N j ∧ wdA N j ≤ 65536 := by have := hj_.m0; have := hj_.m1; have := hj_.m2; have := hj_.m3; have := hok.p7; unfold wdA; omega
 have hE : Out 0 0 w w := Out.refl _ _ w
 refine enter Try.func59 rfl Try.ntmps59 rfl ?_
 refine wp_seq ?_
 refine rg ?_
 refine st (asI rfl) ?_
 refine rg_end ?_
 refine n_then ?_
 refine wp_seq ?_
 refine rgD 5 (fun w_ => Ext w w_) (fun i => Nat.beq i 2) mixed (by kernel_rfl) ?_
 intro w1 ho2 hs3
 refine ⟨ho2, ?_⟩
 have hx4 := ho2
 refine tn rfl (fun _ hG => y_lb (hbw.ext hG) na62 rfl rfl) ?_
 refine tn rfl (fun _ hG => mvI rfl) ?_
 refine tcv (lb := [.pointer (some ⟨bn, 0, none⟩)]) (vs := [.int .i64 i]) rfl cl57 rfl (tree_w_ok N A _ _ bn i _ (hbn.ext hx4) (hN.ext hx4) hok i0 i1) rfl ?_
 rintro v9 w5 ⟨rfl, ho6⟩
 have hx10 := hx4.step ho6 (.inl (Nat.le_refl _))
 have hz11 := ho6.size
 refine ⟨hx10, ?_⟩
 refine tn rfl (fun _ hG => y_lb (hbw.ext hG) na62 rfl rfl) ?_
 refine tn rfl (fun _ hG => mvI rfl) ?_
 refine t_end ?_
 have hz12 := hx10.size
 replace hbn := hbn.ext hx10
 replace hbw := hbw.ext hx10
 replace hN := hN.ext hx10
 replace hE := hE.step hx10 (.inl (Nat.le_refl _))
 refine scv (lb := [.pointer (some ⟨bn, 0, none⟩)]) (vs := [.int .i64 j]) cl57 rfl (tree_w_ok N A _ _ bn j _ hbn hN hok j0 j1) rfl ?_
 rintro v17 w13 ⟨rfl, ho14⟩
 have hz18 := ho14.size
 replace hbn := hbn.ext ho14
 replace hbw := hbw.ext ho14
 replace hN := hN.ext ho14
 replace hE := hE.step ho14 (.inl (Nat.le_refl _))
 refine st (y_sub rfl rfl (by omega)) ?_
 refine st (asI rfl) ?_
 refine rg_end ?_
 refine n_then ?_
 refine wp_ret ?_
 refine ret1 (v := (.int .i64 _)) Try.results59 rfl ?_
 exact ⟨rfl, hE⟩

structure TrJ (N : Net) (A : NetA) (lo hi bn bw : Nat) (w : World) : Prop where
  hn : Blk w bn (netCells N A)
  hw : Blk w bw [.func (.func 57) #[] [.pointer (some ⟨bn, 0, none⟩)].toArray]
  net : NetIn lo hi w N A
theorem TrJ.mk_ {N : Net} {A : NetA} {lo hi bn bw bo : Nat} {w : World} (h : TrJ N A lo hi bn bw w) (h1 : bn < bo) (h2 : hi ≤ bo) (h3 : bo < bw) : CjI (some ⟨bo, 0, none⟩) (TrJ N A lo hi bn bw) w := by
  refine ⟨h, fun w1 w2 a b hj ho hs => ?_⟩
  simp only [blk_some, hi1_some] at hs
  rcases Nat.lt_or_ge a b with c | c
  · exact ⟨hj.hn.out ho (by omega), hj.hw.out ho (by omega), hj.net.out ho (by omega)⟩
  · have he : Ext w1 w2 := ho.wide (.inl c)
    exact ⟨hj.hn.ext he, hj.hw.ext he, hj.net.ext he⟩

set_option maxHeartbeats 4000000 in
set_option maxRecDepth 100000 in
theorem cycles_Tree_ok (N : Net) (A : NetA) (lo hi : Nat) (w : World) (hN : NetIn lo hi w N A)  : Cal Try.prog 28 [netV N A] w (fun v w' => ∃ ad c t, v = .slice ad t.length c ∧ Ints w.heap.size w'.heap.size w' ad t ∧ (netOk N = false → t = []) ∧ (netOk N = true → t = trX N ∧ FoOk N (trX N)) ∧ (t.length : Int) ≤ 512 ∧ t.length ≤ c ∧ Ext w w') := by
 replace hN := hN.full
 have hE : Out 0 0 w w := Out.refl _ _ w
 refine enter Try.func28 rfl Try.ntmps28 rfl ?_
 refine wp_seq ?_
 refine rg ?_
 refine sd (d_boxA rfl ?_)
 intro b1 w1 hbb1 hs3 ho2 hb1
 have hz4 := ho2.size
 replace hN := hN.ext ho2
 replace hE := hE.step ho2 (.inl (Nat.le_refl _))
 refine st (asS rfl) ?_
 refine rg_end ?_
 refine n_then ?_
 refine wp_seq ?_
 refine wp_seq ?_
 refine rg ?_
 refine st (y_lbN hb1 agg26 rfl) ?_
 refine sc cl51 (network_Check_ok N A _ _ _ hN) rfl ?_
 rintro v9 w5 ⟨rfl, ho6⟩
 have hz10 := ho6.size
 replace hN := hN.ext ho6
 replace hE := hE.step ho6 (.inl (Nat.le_refl _))
 replace hb1 := hb1.ext ho6
 refine st (y_not rfl) ?_
 refine rg_end ?_
 refine n_then ?_
 refine cnd rfl (fun hc0 => ?_) (fun hc0 => ?_)
 ·
  try simp only [nm] at hc0
  refine wp_seq ?_
  refine rg ?_
  refine st (asS rfl) ?_
  refine rg_end ?_
  refine n_then ?_
  refine wp_ret ?_
  refine r_then (ret1 (v := (.slice _ _ _)) Try.results28 rfl ?_)
  exact ⟨none, 0, [], rfl, nilS0, fun _ => rfl, fun h => (by rw [h] at hc0; cases hc0), by simp, by simp, hE⟩
 ·
  try simp only [nm] at hc0
  have hok := netOk_iff.1 hc0
  have hne := hok.ev
  have hna := hok.ac
  refine wp_skip ?_
  refine n_then ?_
  refine wp_seq ?_
  refine rg ?_
  refine st (y_fld fld26_2 rfl) ?_
  refine st (y_lb hb1 na24 rfl rfl) ?_
  refine st (y_len Try.underlying24 rfl) ?_
  refine sd (d_make (m := N.acts.length) (lo := w5.heap.size) (enc := Wk.encI) (e0 := (0 : Int)) sl22 info3 (fun _ => rfl) rfl rfl rfl (by omega) (by unfold maxLen; omega) (by omega) ?_)
  intro bo w11 hbbo hs13 ho12 hO
  have hz15 := ho12.size
  replace hN := hN.ext ho12
  replace hE := hE.step ho12 (.inl (Nat.le_refl _))
  replace hb1 := hb1.ext ho12
  refine st (asS rfl) ?_
  refine rg_end ?_
  refine n_then ?_
  refine wp_seq ?_
  refine wp_seq ?_
  refine rg ?_
  refine st (mvS rfl) ?_
  refine st (y_len Try.underlying22 rfl) ?_
  refine st (mvI rfl) ?_
  refine rg_end ?_
  refine n_then ?_
  refine wp_block ?_
  refine lp (γ := Nat × List Int) [4, 19, 20, 21, 22, 23, 24, 25, 26] (fun ⟨k, O⟩ => [(19, .int .i64 (k : Int))]) (fun ⟨k, O⟩ w_ => Out bo (bo + 1) w11 w_ ∧ (k : Int) ≤ N.acts.length ∧ O.length = N.acts.length ∧ (∀ p : Nat, p < k → el O p = p) ∧ Ow 3 Wk.encI 1 bo (bo + 1) w_ (some ⟨bo, 0, none⟩) N.acts.length O) (fun ⟨k, O⟩ => N.acts.length - k) (0, List.replicate N.acts.length 0) ⟨rfl, trivial⟩ ⟨Out.refl _ _ _, by simp, by simp, (fun p hp => by omega), hO.lower (by omega)⟩ ?_
  rintro ⟨k, O⟩ hav_ w16 ⟨ho17, hk, hOl, hfil, hO⟩
  have hlp0 := ho17
  have hz18 := ho17.size
  replace hN := hN.out ho17 (by first | omega | (simp only [blk_some, hi1_some] at *; omega))
  replace hE := hE.step ho17 (by first | omega | (simp only [blk_some, hi1_some] at *; omega))
  replace hb1 := hb1.out ho17 (by first | omega | (simp only [blk_some, hi1_some] at *; omega))
  refine wp_seq ?_
  refine rg ?_
  refine st (y_lss rfl rfl) ?_
  refine rg_end ?_
  refine n_then ?_
  refine wp_seq ?_
  refine cnd rfl (fun hc1 => ?_) (fun hc1 => ?_)
  ·
   try simp only [nm] at hc1
   refine wp_skip ?_
   refine n_then ?_
   refine wp_seq ?_
   refine wp_block ?_
   refine wp_seq ?_
   refine rg ?_
   refine st (mvI rfl) ?_
   refine st (asI rfl) ?_
   refine rg_end ?_
   refine n_then ?_
   refine rg ?_
   refine st (mvS rfl) ?_
   refine st (mvI rfl) ?_
   refine st (mvI rfl) ?_
   refine st (y_ix hO.sl sl22 rfl (hOl.symm) rfl (by omega) (by omega)) ?_
   refine sd0 (d_se (j := 0)  hO sz3 rfl rfl rfl (by omega) (by omega) (Nat.le_of_ble_eq_true rfl) rfl ?_)
   intro w19 hs21 ho20 hO'
   have hrhO := hO.rng
   clear hO; have hO := hO'; clear hO'
   have hz22 := ho20.size
   replace hN := hN.out ho20 (by first | omega | (simp only [blk_some, hi1_some] at *; omega))
   replace hE := hE.step ho20 (by first | omega | (simp only [blk_some, hi1_some] at *; omega))
   replace hb1 := hb1.out ho20 (by first | omega | (simp only [blk_some, hi1_some] at *; omega))
   replace hlp0 := hlp0.step ho20 (by first | omega | (simp only [blk_some, hi1_some] at *; omega))
   refine rg_end ?_
   refine n_blk ?_
   refine n_then ?_
   refine rg ?_
   refine st (y_add rfl rfl (by omega)) ?_
   refine st (mvI rfl) ?_
   refine rg_end ?_
   exact n_then ⟨(k + 1, _), _, rfl, same_lk rfl (same_h0), ⟨rfl, trivial⟩, ⟨hlp0, by omega, by simp [hOl], fillU hOl (by omega) hfil, hO⟩, by first | omega | (dsimp only; omega)⟩
  ·
   try simp only [nm] at hc1
   have hid : ∀ k : Int, 0 ≤ k → k < N.acts.length → el O k = k := fun k k0 k1 => by
     have := hfil k.toNat (by omega)
     rwa [Int.toNat_of_nonneg k0] at this
   have hval : ValR N.acts.length N.acts.length O := fun k k0 k1 => by rw [hid k k0 k1]; omega
   refine wp_exit ?_
   refine e_then (e_then (e_blk (?_)))
   refine n_then ?_
   refine wp_seq ?_
   refine rg ?_
   refine st (y_mkf rfl) ?_
   refine sd (d_alloc1 rfl zer62 ?_)
   intro bw w23 hbbw hs25 ho24 hbw
   have hz26 := ho24.size
   replace hN := hN.ext ho24
   replace hE := hE.step ho24 (.inl (Nat.le_refl _))
   replace hb1 := hb1.ext ho24
   replace hO := hO.ext ho24
   refine sd0 (d_st hbw sz62 rfl rfl rfl (Nat.le_of_ble_eq_true rfl) ?_)
   intro w27 hs29 ho28 hbw'
   clear hbw; have hbw := hbw'; clear hbw'
   have hz30 := ho28.size
   replace hN := hN.out ho28 (by first | omega | (simp only [blk_some, hi1_some] at *; omega))
   replace hE := hE.step ho28 (by first | omega | (simp only [blk_some, hi1_some] at *; omega))
   replace hb1 := hb1.out ho28 (by first | omega | (simp only [blk_some, hi1_some] at *; omega))
   have hrnhO := hO.rng
   replace hO := hO.out ho28 (by first | omega | (simp only [blk_some, hi1_some] at *; omega))
   refine rg_end ?_
   refine n_then ?_
   refine wp_seq ?_
   refine rg ?_
   refine st (mvS rfl) ?_
   refine st (y_mkf rfl) ?_
   refine sc cl58 (sortStable_ok (some ⟨bo, 0, none⟩) N.acts.length N.acts.length bo (bo + 1) (wdA N) N.acts.length 59 [.pointer (some ⟨bw, 0, none⟩)] (TrJ N A 0 w.heap.size b1 bw) O _ hO hOl (by omega) hid hval cl59 (TrJ.mk_ ⟨hb1, hbw, hN⟩ (by omega) (by omega) (by omega)) (fun x y w1 hx hy hj => tree_c_ok N A 0 w.heap.size b1 bw x y w1 hj.hn hj.hw hj.net hok hx.1 hx.2 hy.1 hy.2)) rfl ?_
   rintro v35 w31 ⟨O', rfl, hsr, hfr, hO', ho32⟩
   clear hO
   have hO := hO'
   have hord : OrdK N O' := ⟨by rw [hfr.len]; exact hOl, hval.frm hfr hOl (by omega) (by omega), hsr⟩
   have hOl2 := hord.len
   have hz36 := ho32.size
   replace hN := hN.out ho32 (by first | omega | (simp only [blk_some, hi1_some] at *; omega))
   replace hE := hE.step ho32 (by first | omega | (simp only [blk_some, hi1_some] at *; omega))
   replace hb1 := hb1.out ho32 (by first | omega | (simp only [blk_some, hi1_some] at *; omega))
   replace hbw := hbw.out ho32 (by first | omega | (simp only [blk_some, hi1_some] at *; omega))
   refine rg_end ?_
   refine n_then ?_
   refine wp_seq ?_
   refine rg ?_
   refine st (y_fld fld26_1 rfl) ?_
   refine st (y_lb hb1 na23 rfl rfl) ?_
   refine st (y_len Try.underlying23 rfl) ?_
   refine sc cl54 (cycles_newPartition_ok N.evs.length _ (by omega)) rfl ?_
   rintro v41 w37 ⟨bp, P0, rfl, hbp, hP, hu0, ho38⟩
   have hPl0 := hu0.len
   have hPr := hP.rng
   have hz42 := ho38.size
   replace hN := hN.ext ho38
   replace hE := hE.step ho38 (.inl (Nat.le_refl _))
   replace hb1 := hb1.ext ho38
   replace hO := hO.ext ho38
   replace hbw := hbw.ext ho38
   refine st (asS rfl) ?_
   refine rg_end ?_
   refine n_then ?_
   refine wp_seq ?_
   refine rg ?_
   refine st (asS rfl) ?_
   refine rg_end ?_
   refine n_then ?_
   refine wp_seq ?_
   refine wp_seq ?_
   refine rg ?_
   refine st (mvS rfl) ?_
   refine st (y_len Try.underlying22 rfl) ?_
   refine st (mvI rfl) ?_
   refine rg_end ?_
   refine n_then ?_
   refine wp_block ?_
   obtain ⟨z1, hz1⟩ : ∃ z, z = w37.heap.size := ⟨_, rfl⟩
   refine lp (γ := Nat × List Int × (Int → Int) × List Int × Option Addr × Nat) [7, 9, 37, 38, 39, 40, 41, 42, 43, 44, 45, 46, 47, 48, 49, 50, 51, 52, 53, 54, 55, 56, 57, 58, 59] (fun ⟨k, P, R, T, at_, ct⟩ => [(37, .int .i64 (k : Int)), (7, .slice at_ T.length ct)]) (fun ⟨k, P, R, T, at_, ct⟩ w_ => Out bp (bp + 1) w37 w_ ∧ (k : Int) ≤ N.acts.length ∧ UF N.evs.length P R ∧ Tells N.evs.length R (conB (T.map (el N.acts))) ∧ Kc N O' k T ∧ Ow 3 Wk.encI 1 w.heap.size (bp + 1) w_ (some ⟨bp, 0, none⟩) N.evs.length P ∧ Ow 3 Wk.encI 1 z1 w_.heap.size w_ at_ ct T) (fun ⟨k, P, R, T, at_, ct⟩ => N.acts.length - k) (0, P0, fun x => x, [], none, 0) ⟨rfl, rfl, trivial⟩ ⟨Out.refl _ _ _, by simp, hu0, by simpa [conB] using Tells.start _, Kc.zero, hP.lower (by omega), Ow.nil (fun _ => rfl)⟩ ?_
   rintro ⟨k, P, R, T, at_, ct⟩ hav_ w43 ⟨ho44, hk, hu, ht_, hkc, hP, hT⟩
   have hlp1 := ho44
   have hz45 := ho44.size
   replace hN := hN.out ho44 (by first | omega | (simp only [blk_some, hi1_some] at *; omega))
   replace hE := hE.step ho44 (by first | omega | (simp only [blk_some, hi1_some] at *; omega))
   replace hb1 := hb1.out ho44 (by first | omega | (simp only [blk_some, hi1_some] at *; omega))
   replace hO := hO.out ho44 (by first | omega | (simp only [blk_some, hi1_some] at *; omega))
   replace hbw := hbw.out ho44 (by first | omega | (simp only [blk_some, hi1_some] at *; omega))
   refine wp_seq ?_
   refine rg ?_
   refine st (y_lss rfl rfl) ?_
   refine rg_end ?_
   refine n_then ?_
   refine wp_seq ?_
   refine cnd rfl (fun hc2 => ?_) (fun hc2 => ?_)
   ·
    try simp only [nm] at hc2
    have hir := hord.val (k : Int) (by omega) (by omega)
    have ha := hok.acs _ (el_mem hir.1 hir.2)
    have hu1 := hu.join ha.f0 ha.f1 ha.t0 ha.t1
    have htl_ := hkc.le
    refine wp_skip ?_
    refine n_then ?_
    refine wp_seq ?_
    refine wp_block ?_
    refine wp_seq ?_
    refine rg ?_
    refine st (y_ix hO.sl sl22 rfl (hOl2.symm) rfl (by omega) (by omega)) ?_
    refine st (y_le hO.sl na3 rfl (by omega) (by omega) rfl) ?_
    refine st (asI rfl) ?_
    refine rg_end ?_
    refine n_then ?_
    refine wp_seq ?_
    refine rgD 13 (fun w_ => Ext w43 w_) (fun i => false) mixed (by kernel_rfl) ?_
    intro w46 ho47 hs48
    refine ⟨ho47, ?_⟩
    have hx49 := ho47
    refine tn rfl (fun _ hG => mvS rfl) ?_
    refine tn rfl (fun _ hG => y_fld fld26_2 rfl) ?_
    refine tn rfl (fun _ hG => y_lb (hb1.ext hG) na24 rfl rfl) ?_
    refine tn rfl (fun _ hG => mvI rfl) ?_
    refine tn rfl (fun _ hG => y_ix (hN.a.ext hG) sl24 rfl (rfl) rfl (by omega) (by omega)) ?_
    refine tn rfl (fun _ hG => y_fld fld43_1 rfl) ?_
    refine tn rfl (fun _ hG => y_lf (hN.a.ext hG) na3 rfl (by omega) (by omega) rfl) ?_
    refine tn rfl (fun _ hG => y_fld fld26_2 rfl) ?_
    refine tn rfl (fun _ hG => y_lb (hb1.ext hG) na24 rfl rfl) ?_
    refine tn rfl (fun _ hG => mvI rfl) ?_
    refine tn rfl (fun _ hG => y_ix (hN.a.ext hG) sl24 rfl (rfl) rfl (by omega) (by omega)) ?_
    refine tn rfl (fun _ hG => y_fld fld43_2 rfl) ?_
    refine tn rfl (fun _ hG => y_lf (hN.a.ext hG) na3 rfl (by omega) (by omega) rfl) ?_
    refine t_end ?_
    have hz50 := hx49.size
    replace hN := hN.ext hx49
    replace hE := hE.step hx49 (.inl (Nat.le_refl _))
    replace hb1 := hb1.ext hx49
    replace hO := hO.ext hx49
    replace hbw := hbw.ext hx49
    replace hP := hP.ext hx49
    replace hT := hT.ext hx49
    replace hlp1 := hlp1.step hx49 (.inl (Nat.le_refl _))
    refine sc cl55 (cycles_join_ok N.evs.length P R _ _ _ _ _ _ _ hP hu ha.f0 ha.f1 ha.t0 ha.t1) rfl ?_
    rintro v55 w51 ⟨rfl, hP, ho52⟩
    have hz56 := ho52.size
    replace hN := hN.out ho52 (by first | omega | (simp only [blk_some, hi1_some] at *; omega))
    replace hE := hE.step ho52 (by first | omega | (simp only [blk_some, hi1_some] at *; omega))
    replace hb1 := hb1.out ho52 (by first | omega | (simp only [blk_some, hi1_some] at *; omega))
    replace hO := hO.out ho52 (by first | omega | (simp only [blk_some, hi1_some] at *; omega))
    replace hbw := hbw.out ho52 (by first | omega | (simp only [blk_some, hi1_some] at *; omega))
    have hrnhT := hT.rng
    replace hT := hT.out ho52 (by first | omega | (simp only [blk_some, hi1_some] at *; omega))
    replace hlp1 := hlp1.step ho52 (by first | omega | (simp only [blk_some, hi1_some] at *; omega))
    refine rg_end ?_
    refine n_then ?_
    refine cnd rfl (fun hc3 => ?_) (fun hc3 => ?_)
    ·
     try simp only [nm] at hc3
     have hcn : conB (T.map (el N.acts)) (el N.acts (el O' (k : Int))).fr (el N.acts (el O' (k : Int))).tt = false := by
       cases e : conB (T.map (el N.acts)) (el N.acts (el O' (k : Int))).fr (el N.acts (el O' (k : Int))).tt with
       | false => rfl
       | true => exact absurd ((ht_ _ _ ha.f0 ha.f1 ha.t0 ha.t1).1 e) (by assumption)
     have hkc1 := hkc.take hord (by omega) hcn
     have ht1 : Tells N.evs.length (joinR R (el N.acts (el O' (k : Int))).fr (el N.acts (el O' (k : Int))).tt) (conB ((T ++ [el O' (k : Int)]).map (el N.acts))) := by
       rw [show (T ++ [el O' (k : Int)]).map (el N.acts) = T.map (el N.acts) ++ [el N.acts (el O' (k : Int))] by simp, conB_snoc]
       exact ht_.join ha.f0 ha.f1 ha.t0 ha.t1
     refine rg ?_
     refine st (mvS rfl) ?_
     refine st (mvI rfl) ?_
     refine sd (d_bs (bsl22_1 _ _) rfl ?_)
     intro bl60 w57 hbbl60 hs59 ho58 hbl60
     have hz61 := ho58.size
     replace hN := hN.ext ho58
     replace hE := hE.step ho58 (.inl (Nat.le_refl _))
     replace hb1 := hb1.ext ho58
     replace hO := hO.ext ho58
     replace hbw := hbw.ext ho58
     replace hP := hP.ext ho58
     replace hT := hT.ext ho58
     replace hlp1 := hlp1.step ho58 (.inl (Nat.le_refl _))
     have hrhT := hT.rng
     refine sd (d_app (xs := [el O' (k : Int)]) hT sl22 infoz3 (by decide) rfl rfl rfl rfl (hbl60) (fun _ => rfl) (by simp; unfold maxLen; omega) (by simp; omega) (by omega) (by omega) ?_)
     intro at1 ct1 w62 ho63 hT'
     have hs64 := ho63.size
     clear hT; have hT := hT'; clear hT'
     have hz67 := ho63.size
     replace hN := hN.out ho63 (by first | omega | (simp only [blk_some, hi1_some] at *; omega))
     replace hE := hE.step ho63 (by first | omega | (simp only [blk_some, hi1_some] at *; omega))
     replace hb1 := hb1.out ho63 (by first | omega | (simp only [blk_some, hi1_some] at *; omega))
     replace hO := hO.out ho63 (by first | omega | (simp only [blk_some, hi1_some] at *; omega))
     replace hbw := hbw.out ho63 (by first | omega | (simp only [blk_some, hi1_some] at *; omega))
     have hrnhP := hP.rng
     replace hP := hP.out ho63 (by first | omega | (simp only [blk_some, hi1_some] at *; omega))
     replace hlp1 := hlp1.step ho63 (by first | omega | (simp only [blk_some, hi1_some] at *; omega))
     refine st (asS rfl) ?_
     refine rg_end ?_
     refine n_blk ?_
     refine n_then ?_
     refine rg ?_
     refine st (y_add rfl rfl (by omega)) ?_
     refine st (mvI rfl) ?_
     refine rg_end ?_
     exact n_then ⟨(k + 1, _, _, _, _, _), _, rfl, same_lk rfl (same_h0), ⟨rfl, rfl, trivial⟩, ⟨hlp1, by omega, hu1, ht1, hkc1, hP, hT.wide (by omega)⟩, by first | omega | (dsimp only; omega)⟩
    ·
     try simp only [nm] at hc3
     have hcn : conB (T.map (el N.acts)) (el N.acts (el O' (k : Int))).fr (el N.acts (el O' (k : Int))).tt = true := (ht_ _ _ ha.f0 ha.f1 ha.t0 ha.t1).2 (by first | assumption | simpa using hc3)
     have hkc1 := hkc.pass hord (by omega) hcn
     have ht1 : Tells N.evs.length (joinR R (el N.acts (el O' (k : Int))).fr (el N.acts (el O' (k : Int))).tt) (conB (T.map (el N.acts))) := tells_same ht_ ha.f0 ha.f1 ha.t0 ha.t1 hcn
     refine wp_skip ?_
     refine n_blk ?_
     refine n_then ?_
     refine rg ?_
     refine st (y_add rfl rfl (by omega)) ?_
     refine st (mvI rfl) ?_
     refine rg_end ?_
     exact n_then ⟨(k + 1, _, _, _, _, _), _, rfl, same_lk rfl (same_h0), ⟨rfl, rfl, trivial⟩, ⟨hlp1, by omega, hu1, ht1, hkc1, hP, hT.wide (by omega)⟩, by first | omega | (dsimp only; omega)⟩
   ·
    try simp only [nm] at hc2
    have hkk : k = N.acts.length := by omega
    subst hkk
    have hsrt := hkc.sort hord
    have hfo := hkc.forest hok hord
    have htle := hkc.le
    refine wp_exit ?_
    refine e_then (e_then (e_blk (?_)))
    refine n_then ?_
    refine wp_seq ?_
    refine rg ?_
    refine st (mvS rfl) ?_
    have hrT_ := hT.rng
    refine sc cl60 (sortA_ok _ _ T _ _ _ hT (by omega)) rfl ?_
    rintro v72 w68 ⟨hT1, ho69⟩
    clear hT
    have hT := hT1
    clear hT1
    rw [hsrt] at hT
    have hlt : T.length = (trX N).length := (hkc.perm hord).length_eq
    have hz73 := ho69.size
    replace hN := hN.out ho69 (by first | omega | (simp only [blk_some, hi1_some] at *; omega))
    replace hE := hE.step ho69 (by first | omega | (simp only [blk_some, hi1_some] at *; omega))
    replace hb1 := hb1.out ho69 (by first | omega | (simp only [blk_some, hi1_some] at *; omega))
    replace hO := hO.out ho69 (by first | omega | (simp only [blk_some, hi1_some] at *; omega))
    replace hbw := hbw.out ho69 (by first | omega | (simp only [blk_some, hi1_some] at *; omega))
    have hrnhP := hP.rng
    replace hP := hP.out ho69 (by first | omega | (simp only [blk_some, hi1_some] at *; omega))
    refine rg_end ?_
    refine n_then ?_
    refine wp_seq ?_
    refine rg ?_
    refine st (mvS rfl) ?_
    refine st (asS rfl) ?_
    refine rg_end ?_
    refine n_then ?_
    refine wp_ret ?_
    refine ret1 (v := (.slice _ _ _)) Try.results28 rfl ?_
    exact ⟨_, _, trX N, by rw [hlt], Sl.wide (Ow.sl hT) (by omega) (by omega), fun h => (by rw [h] at hc0; cases hc0), fun _ => ⟨rfl, hfo⟩, by omega, hT.lenLe, hE⟩
end Go.Proofs.Ytdgkaahghlbocaa
