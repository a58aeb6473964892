/-
  Walks of the functions, printed by a program out of the code and the loops' relations.
-/
import Derived.Test.YteicgnmggkhlbaaWkD
import Derived.Test.YteicgnmggkhlbaaProg
import Derived.KernelRfl
import Derived.Test.YteicgnmggkhlbaaP19
namespace Go.Proofs.Yteicgnmggkhlbaa
open Go.Wk Go.RowKit
set_option linter.unusedVariables false
set_option linter.unusedSimpArgs false
theorem cl19 : Callable Try.prog 19 := ⟨Try.call19⟩
set_option maxRecDepth 100000 in
theorem info3 : ∃ i, Try.prog.info? 3 = some i ∧ i.zero = some (.int .i64 0) ∧ i.size = 1 ∧ i.bytes = 8 := ⟨Try.t3, Try.type3, rfl, rfl, rfl⟩
set_option maxRecDepth 100000 in
theorem info4 : ∃ i, Try.prog.info? 4 = some i ∧ i.zero = some (.bool false) ∧ i.size = 1 ∧ i.bytes = 1 := ⟨Try.t4, Try.type4, rfl, rfl, rfl⟩
theorem sl31 : SliceOf Try.prog 31 4 1 := ⟨Try.underlying31, Try.sizeOf4⟩

theorem SmP.totk {rows : List Pw} (h : SmP rows) {k : Nat} (hk : k ≤ rows.length) : 1 ≤ totT rows k ∧ totT rows k ≤ 216 := by
  have h1 := tot_le (rows := rows) (k := k) (fun i hi => (h.row _ (el_mem (by omega) (by omega))).2.1)
  have h2 : rows.length ≤ 3 := h.n3
  have h3 : (6 : Int) ^ k ≤ 216 := by
    have : k = 0 ∨ k = 1 ∨ k = 2 ∨ k = 3 := by omega
    rcases this with e | e | e | e <;> rw [e] <;> decide
  omega
theorem idx_b {rows : List Pw} {a : List Int} (h : SmP rows) (hg : GoP rows a) {k : Nat} (hk : k < rows.length) : 0 ≤ idxT rows a k ∧ idxT rows a k ≤ 216 ∧ 0 ≤ idxT rows a k * (((el rows (k : Int)).st.length : Int) + 2) ∧ idxT rows a k * (((el rows (k : Int)).st.length : Int) + 2) + el a (k : Int) + 1 ≤ 216 ∧ idxT rows a k * (((el rows (k : Int)).st.length : Int) + 2) ≤ 216 := by
  have h1 := idx_rng (rows := rows) (a := a) (k := k) (fun i hi => hg.rng i (by omega))
  have h2 := idx_rng (rows := rows) (a := a) (k := k + 1) (fun i hi => hg.rng i (by omega))
  have h3 := (h.totk (k := k) (by omega)).2
  have h4 := (h.totk (k := k + 1) (by omega)).2
  have h5 := hg.rng k hk
  have h6 : 0 ≤ idxT rows a k * (((el rows (k : Int)).st.length : Int) + 2) := Int.mul_nonneg h1.1 (by omega)
  unfold idxT at h2
  omega
theorem tot_b {rows : List Pw} (h : SmP rows) {k : Nat} (hk : k < rows.length) : 0 ≤ totT rows k * (((el rows (k : Int)).st.length : Int) + 2) ∧ totT rows k * (((el rows (k : Int)).st.length : Int) + 2) ≤ 216 := by
  have h4 := h.totk (k := k + 1) (by omega)
  unfold totT at h4
  omega
def cfB : List Bool → Nat
  | [] => 0
  | b :: l => (if b then 0 else 1) + cfB l
theorem cfB_set : ∀ (l : List Bool) (k : Nat), l[k]? = some false → cfB (l.set k true) + 1 = cfB l
  | [], k, h => by simp at h
  | b :: l, 0, h => by
    simp at h; subst h
    simp [cfB]; omega
  | b :: l, k + 1, h => by
    have := cfB_set l k (by simpa using h)
    simp only [List.set_cons_succ, cfB]; omega
structure RIv (rows : List Pw) (N0 : Nat) (Sf : List Bool) : Prop where
  len : Sf.length = N0
  snd : ∀ a, GoP rows a → el Sf (idxT rows a rows.length) = true → Safe rows a ∧ ¬ Hel rows a
def Closed (rows : List Pw) (Sf : List Bool) (k : Int) : Prop := ∀ a, GoP rows a → idxT rows a rows.length < k → ¬ Hel rows a → (leftB rows a = true ∨ ∃ t : Nat, t < rows.length ∧ movB rows a (t : Int) = true ∧ el Sf (idxT rows (nxA a t) rows.length) = true) → el Sf (idxT rows a rows.length) = true
/-- What reach hands back. -/
def RcOk (rows : List Pw) (Sf : List Bool) : Prop := (Sf.length : Int) = totT rows rows.length ∧ ∀ a, GoP rows a → (el Sf (idxT rows a rows.length) = true ↔ Safe rows a ∧ ¬ Hel rows a)
theorem rc_end {rows : List Pw} {N0 : Nat} {Sf : List Bool} (hva : VaP rows) (hN : totT rows rows.length = (N0 : Int)) (hr : RIv rows N0 Sf) (hc : Closed rows Sf (N0 : Int)) : RcOk rows Sf := by
  have key : ∀ a, Safe rows a → GoP rows a → ¬ Hel rows a → el Sf (idxT rows a rows.length) = true := by
    intro a hs
    induction hs with
    | @done a h => exact fun ha hn => hc a ha (by have := idx_rng (rows := rows) (a := a) (k := rows.length) ha.rng; omega) hn (.inl h)
    | @step a t ht hm h ih => exact fun ha hn => hc a ha (by have := idx_rng (rows := rows) (a := a) (k := rows.length) ha.rng; omega) hn (.inr ⟨t, ht, hm, ih (ha.nx ht hm) (hel_nx hva ha hn ht hm)⟩)
  exact ⟨by rw [hr.len, hN], fun a ha => ⟨hr.snd a ha, fun h => key a h.1 ha h.2⟩⟩
theorem rc_start {rows : List Pw} {N0 : Nat} (hN : totT rows rows.length = (N0 : Int)) : RIv rows N0 (List.replicate N0 false) := ⟨by simp, fun a ha h => by
  have := idx_rng (rows := rows) (a := a) (k := rows.length) ha.rng
  rw [elRep this.1 (by omega)] at h; cases h⟩
theorem cl_skip {rows : List Pw} {Sf : List Bool} {x : List Int} {k : Nat} (hx : GoP rows x) (hi : idxT rows x rows.length = (k : Int)) (h : Closed rows Sf (k : Int)) (hk : el Sf (k : Int) = true ∨ Hel rows x ∨ (leftB rows x = false ∧ ∀ t : Nat, t < rows.length → movB rows x (t : Int) = true → ¬ el Sf (idxT rows (nxA x t) rows.length) = true)) : Closed rows Sf ((k + 1 : Nat) : Int) := fun a ha hlt hn hp => by
  by_cases e : idxT rows a rows.length = (k : Int)
  · have hax : a = x := ha.inj hx (by rw [e, hi])
    subst hax
    rcases hk with q | q | ⟨q1, q2⟩
    · rw [hi]; exact q
    · exact absurd q hn
    · rcases hp with p | ⟨t, h1, h2, h3⟩
      · rw [q1] at p; cases p
      · exact absurd h3 (q2 t h1 h2)
  · exact h a ha (by omega) hn hp
theorem rc_set {rows : List Pw} {N0 : Nat} {Sf : List Bool} {x : List Int} {k : Nat} (h : RIv rows N0 Sf) (hk : k < N0) (hx : GoP rows x) (hi : idxT rows x rows.length = (k : Int)) (hn : ¬ Hel rows x) (hp : leftB rows x = true ∨ ∃ t : Nat, t < rows.length ∧ movB rows x (t : Int) = true ∧ el Sf (idxT rows (nxA x t) rows.length) = true) : RIv rows N0 (Sf.set k true) := by
  have hl := h.len
  refine ⟨by rw [List.length_set]; exact hl, fun a ha q => ?_⟩
  by_cases e : idxT rows a rows.length = (k : Int)
  · have hax : a = x := ha.inj hx (by rw [e, hi])
    subst hax
    refine ⟨?_, hn⟩
    rcases hp with p | ⟨t, h1, h2, h3⟩
    · exact .done p
    · exact .step t h1 h2 (h.snd _ (hx.nx h1 h2) h3).1
  · have hr := idx_rng (rows := rows) (a := a) (k := rows.length) ha.rng
    have := elSetN (l := Sf) (i := (k : Int)) (j := idxT rows a rows.length) (v := true) (by omega) hr.1 e
    rw [Int.toNat_natCast] at this
    rw [this] at q
    exact h.snd a ha q
/-- The digits of a state's number. -/
structure DcI (rows : List Pw) (k : Int) (t : Nat) (x : List Int) (kk : Int) : Prop where
  len : x.length = rows.length
  rng : 0 ≤ kk ∧ kk < totT rows t
  hi : ∀ i : Nat, t ≤ i → i < rows.length → -1 ≤ el x (i : Int) ∧ el x (i : Int) ≤ (el rows (i : Int)).st.length
  idx : ∀ a : List Int, (∀ i : Nat, t ≤ i → i < rows.length → el a (i : Int) = el x (i : Int)) → idxT rows a t = kk → idxT rows a rows.length = k
theorem DcI.start {rows : List Pw} {k : Int} (h0 : 0 ≤ k) (h1 : k < totT rows rows.length) : DcI rows k rows.length (List.replicate rows.length 0) k := ⟨by simp, ⟨h0, h1⟩, fun i h1 h2 => by omega, fun a _ h => h⟩
theorem DcI.next {rows : List Pw} {k kk : Int} {s : Nat} {x : List Int} (h : DcI rows k (s + 1) x kk) (hs : s < rows.length) : DcI rows k s (x.set s (kk.tmod (((el rows (s : Int)).st.length : Int) + 2) - 1)) (kk.tdiv (((el rows (s : Int)).st.length : Int) + 2)) := by
  have hl := h.len
  have hr := h.rng
  have e1 : kk.tmod (((el rows (s : Int)).st.length : Int) + 2) = kk % (((el rows (s : Int)).st.length : Int) + 2) := Int.tmod_eq_emod_of_nonneg hr.1
  have e2 : kk.tdiv (((el rows (s : Int)).st.length : Int) + 2) = kk / (((el rows (s : Int)).st.length : Int) + 2) := Int.tdiv_eq_ediv_of_nonneg hr.1
  rw [e1, e2]
  have hL : 0 < ((el rows (s : Int)).st.length : Int) + 2 := by omega
  have m0 := Int.emod_nonneg kk (show (((el rows (s : Int)).st.length : Int) + 2) ≠ 0 by omega)
  have m1 := Int.emod_lt_of_pos kk hL
  have hd := Int.emod_add_mul_ediv kk (((el rows (s : Int)).st.length : Int) + 2)
  have es : el (x.set s (kk % (((el rows (s : Int)).st.length : Int) + 2) - 1)) (s : Int) = kk % (((el rows (s : Int)).st.length : Int) + 2) - 1 := by
    have := elSetS (l := x) (i := (s : Int)) (v := kk % (((el rows (s : Int)).st.length : Int) + 2) - 1) (by omega) (by omega)
    rwa [Int.toNat_natCast] at this
  have en : ∀ i : Nat, i ≠ s → el (x.set s (kk % (((el rows (s : Int)).st.length : Int) + 2) - 1)) (i : Int) = el x (i : Int) := fun i hi => by
    have := elSetN (l := x) (i := (s : Int)) (j := (i : Int)) (v := kk % (((el rows (s : Int)).st.length : Int) + 2) - 1) (by omega) (by omega) (by omega)
    rwa [Int.toNat_natCast] at this
  refine ⟨by rw [List.length_set]; exact hl, ⟨Int.ediv_nonneg hr.1 (by omega), Int.ediv_lt_of_lt_mul hL (by have := hr.2; unfold totT at this; exact this)⟩, fun i h1 h2 => ?_, fun a ha hi => ?_⟩
  · by_cases e : i = s
    · subst e; rw [es]; omega
    · rw [en i e]; exact h.hi i (by omega) h2
  · refine h.idx a (fun i h1 h2 => ?_) ?_
    · rw [ha i (by omega) h2, en i (by omega)]
    · have := ha s (Nat.le_refl _) hs
      rw [es] at this
      unfold idxT
      rw [hi, this, Int.mul_comm]
      omega
theorem DcI.done {rows : List Pw} {k kk : Int} {x : List Int} (h : DcI rows k 0 x kk) : GoP rows x ∧ idxT rows x rows.length = k := by
  have hr := h.rng
  refine ⟨⟨h.len, fun t ht => h.hi t (by omega) ht⟩, h.idx x (fun _ _ _ => rfl) ?_⟩
  unfold totT at hr
  unfold idxT
  omega
theorem nx_back {x : List Int} {t : Nat} (h : t < x.length) : (nxA x t).set t (el (nxA x t) (t : Int) - 1) = x := by
  rw [nx_t h, show el x (t : Int) + 1 - 1 = el x (t : Int) by omega]
  unfold nxA; rw [List.set_set]; exact set_el h
theorem movs_get {rows : List Pw} {a : List Int} {k j : Nat} (h : (j : Int) < (movs rows a k).length) : ∃ t : Nat, el (movs rows a k) (j : Int) = (t : Int) ∧ t < k ∧ movB rows a (t : Int) = true := by
  have hm := el_mem (l := movs rows a k) (i := (j : Int)) (by omega) h
  obtain ⟨t, ht, e⟩ := List.mem_map.1 (show el (movs rows a k) (j : Int) ∈ ((List.range k).filter fun (t : Nat) => movB rows a (t : Int)).map fun (t : Nat) => (t : Int) from hm)
  exact ⟨t, e.symm, (mem_movs (rows := rows) (a := a)).1 (by rw [e]; exact hm)⟩
theorem ok_T {P : Nat → Prop} {ok : Bool} {lf : Prop} {j : Nat} (h : ok = true ↔ lf ∨ ∃ i, i < j ∧ P i) (hc : ok = true) : true = true ↔ lf ∨ ∃ i, i < j + 1 ∧ P i := by
  refine ⟨fun _ => ?_, fun _ => rfl⟩
  rcases h.1 hc with q | ⟨i, hi, p⟩
  · exact .inl q
  · exact .inr ⟨i, by omega, p⟩
theorem ok_F {P : Nat → Prop} {ok : Bool} {lf : Prop} {j : Nat} {v : Bool} (h : ok = true ↔ lf ∨ ∃ i, i < j ∧ P i) (hc : ok = false) (hv : v = true ↔ P j) : v = true ↔ lf ∨ ∃ i, i < j + 1 ∧ P i := by
  refine ⟨fun q => .inr ⟨j, by omega, hv.1 q⟩, fun q => ?_⟩
  have hn : ¬ (lf ∨ ∃ i, i < j ∧ P i) := fun z => by have := h.2 z; rw [hc] at this; cases this
  rcases q with q | ⟨i, hi, p⟩
  · exact absurd (.inl q) hn
  · by_cases e : i = j
    · subst e; exact hv.2 p
    · exact absurd (.inr ⟨i, by omega, p⟩) hn

set_option maxHeartbeats 1000000 in
set_option maxRecDepth 100000 in
theorem law36_index_ok (rows : List Pw) (ap : Option Addr) (cp l_ h_ : Nat) (at_ : List Int) (aa : Option Addr) (ca la ha_ : Nat) (w : World) (hP : PIn l_ h_ w ap rows) (hpn : (rows.length : Int) ≤ 9223372036854775807) (hA : Ints la ha_ w aa at_) (hsm : SmP rows) (hg : GoP rows at_) : Cal Try.prog 19 [.slice ap rows.length cp, .slice aa at_.length ca] w (fun v w' => v = .int .i64 (idxT rows at_ rows.length) ∧ Ext w w') := by
  replace hP := hP.full
  replace hA := Ints.full hA
  have hn3 := hsm.n3
  have hl := hg.len
  have hE : Out 0 0 w w := Out.refl _ _ w
  refine enter Try.func19 rfl Try.ntmps19 rfl ?_
  refine wp_seq ?_
  refine rg ?_
  refine st (asI rfl) ?_
  refine rg_end ?_
  refine n_then ?_
  refine wp_seq ?_
  refine rg ?_
  refine st (asI rfl) ?_
  refine rg_end ?_
  refine n_then ?_
  refine wp_seq ?_
  refine wp_seq ?_
  refine rg ?_
  refine st (mvS rfl) ?_
  refine st (y_len Try.underlying23 rfl) ?_
  refine st (mvI rfl) ?_
  refine rg_end ?_
  refine n_then ?_
  refine wp_block ?_
  refine lp (γ := Nat) [5, 6, 9, 10, 11, 12, 13, 14, 15, 16, 17, 18, 19, 20, 21, 22, 23, 24, 25, 26] (fun k => [(9, .int .i64 (k : Int)), (5, .int .i64 (idxT rows at_ k))]) (fun k w_ => Ext w w_ ∧ (k : Int) ≤ rows.length) (fun k => rows.length - k) 0 ⟨rfl, rfl, trivial⟩ ⟨Out.refl _ _ _, by omega⟩ ?_
  rintro k hav_ w1 ⟨ho2, hk_⟩
  have hlp0 := ho2
  have hz3 := ho2.size
  replace hP := hP.ext ho2
  replace hA := hA.ext ho2
  replace hE := hE.step ho2 (.inl (Nat.le_refl _))
  refine wp_seq ?_
  refine rg ?_
  refine st (y_lss rfl rfl) ?_
  refine rg_end ?_
  refine n_then ?_
  refine wp_seq ?_
  refine cnd rfl (fun hc0 => ?_) (fun hc0 => ?_)
  ·
    try simp only [decide_eq_true_eq, decide_eq_false_iff_not, Bool.not_eq_true', Bool.not_eq_false', Bool.and_eq_true, Bool.or_eq_true, Bool.or_eq_false_iff, Bool.cond_true_right, Bool.cond_false_right, Bool.cond_true_left, Bool.cond_false_left, ne_eq, Decidable.not_not, bne_iff_ne, beq_iff_eq, beq_eq_false_iff_ne, Bool.not_true, Bool.not_false] at hc0
    have hib := idx_b hsm hg (k := k) (by omega)
    have hgk := hg.rng k (by omega)
    have hr4 := (hsm.row _ (el_mem (l := rows) (i := (k : Int)) (by omega) hc0)).2.1
    refine wp_skip ?_
    refine n_then ?_
    refine wp_seq ?_
    refine wp_block ?_
    refine wp_seq ?_
    refine rg ?_
    refine st (mvI rfl) ?_
    refine st (asI rfl) ?_
    refine rg_end ?_
    refine n_then ?_
    refine rgD 12 (fun w_ => Ext w1 w_) (fun i => false) mixed (by kernel_rfl) ?_
    intro w4 ho5 hs6
    refine ⟨ho5, ?_⟩
    have hx7 := ho5
    refine tn rfl (fun _ hG => mvI rfl) ?_
    refine tn rfl (fun _ hG => mvS rfl) ?_
    refine tn rfl (fun _ hG => mvI rfl) ?_
    refine tn rfl (fun _ hG => y_ix (hP.tb.ext hG) sl23 rfl (rfl) rfl (by omega) (by omega)) ?_
    refine tn rfl (fun _ hG => y_le (hP.tb.ext hG) na35 rfl (by omega) (by omega) rfl) ?_
    refine tn rfl (fun _ hG => y_len Try.underlying35 rfl) ?_
    refine tn rfl (fun _ hG => y_add rfl rfl (by omega)) ?_
    refine tn rfl (fun _ hG => y_mul rfl rfl (by omega)) ?_
    refine tn rfl (fun _ hG => mvS rfl) ?_
    refine tn rfl (fun _ hG => mvI rfl) ?_
    refine tn rfl (fun _ hG => y_ix (hA.ext hG) sl22 rfl (rfl) rfl (by omega) (by omega)) ?_
    refine tn rfl (fun _ hG => y_le (hA.ext hG) na3 rfl (by omega) (by omega) rfl) ?_
    refine t_end ?_
    have hz8 := hx7.size
    replace hP := hP.ext hx7
    replace hA := hA.ext hx7
    replace hE := hE.step hx7 (.inl (Nat.le_refl _))
    replace hlp0 := hlp0.step hx7 (.inl (Nat.le_refl _))
    refine st (y_add rfl rfl (by omega)) ?_
    refine st (y_add rfl rfl (by omega)) ?_
    refine st (asI rfl) ?_
    refine rg_end ?_
    refine n_blk ?_
    refine n_then ?_
    refine rg ?_
    refine st (y_add rfl rfl (by omega)) ?_
    refine st (mvI rfl) ?_
    refine rg_end ?_
    exact n_then ⟨k + 1, _, rfl, same_lk rfl (same_h0), ⟨rfl, rfl, trivial⟩, ⟨hlp0, by omega⟩, by first | omega | (dsimp only; omega)⟩
  ·
    try simp only [decide_eq_true_eq, decide_eq_false_iff_not, Bool.not_eq_true', Bool.not_eq_false', Bool.and_eq_true, Bool.or_eq_true, Bool.or_eq_false_iff, Bool.cond_true_right, Bool.cond_false_right, Bool.cond_true_left, Bool.cond_false_left, ne_eq, Decidable.not_not, bne_iff_ne, beq_iff_eq, beq_eq_false_iff_ne, Bool.not_true, Bool.not_false] at hc0
    have hke : k = rows.length := by omega
    subst hke
    refine wp_exit ?_
    refine e_then (e_then (e_blk (?_)))
    refine n_then ?_
    refine wp_seq ?_
    refine rg ?_
    refine st (mvI rfl) ?_
    refine st (asI rfl) ?_
    refine rg_end ?_
    refine n_then ?_
    refine wp_ret ?_
    refine ret1 (v := (.int .i64 _)) Try.results19 rfl ?_
    exact ⟨rfl, hE⟩

theorem law36_indexM_ok (rows : List Pw) (ap : Option Addr) (cp l_ h_ : Nat) (at_ : List Int) (aa : Option Addr) (ca la ha_ : Nat) (w : World) (hP : PIn l_ h_ w ap rows) (hpn : (rows.length : Int) ≤ 9223372036854775807) (hA : Ints la ha_ w aa at_) (hsm : SmP rows) (hg : GoP rows at_) (m : Nat) (hm : m = at_.length) : Cal Try.prog 19 [.slice ap rows.length cp, .slice aa m ca] w (fun v w' => v = .int .i64 (idxT rows at_ rows.length) ∧ Ext w w') := by
  subst hm
  exact law36_index_ok rows ap cp l_ h_ at_ aa ca la ha_ w hP hpn hA hsm hg

set_option maxHeartbeats 4000000 in
set_option maxRecDepth 100000 in
theorem law36_reach_ok (rows : List Pw) (ap : Option Addr) (cp l_ h_ : Nat) (w : World) (hP : PIn l_ h_ w ap rows) (hpn : (rows.length : Int) ≤ 9223372036854775807) (hsm : SmP rows) : Cal Try.prog 18 [.slice ap rows.length cp] w (fun v w' => ∃ ad c Sf, v = .slice ad Sf.length c ∧ Sl encB 1 w.heap.size w'.heap.size w' ad Sf ∧ RcOk rows Sf ∧ Ext w w') := by
  replace hP := hP.full
  have hn3 := hsm.n3
  have hva := hsm.va
  have hln := sm_len hsm
  obtain ⟨N0, hN0⟩ := Int.eq_ofNat_of_zero_le (show 0 ≤ totT rows rows.length by have := hsm.tot; omega)
  have hN1 := hsm.tot
  have hE : Out 0 0 w w := Out.refl _ _ w
  refine enter Try.func18 rfl Try.ntmps18 rfl ?_
  refine wp_seq ?_
  refine rg ?_
  refine st (asS rfl) ?_
  refine rg_end ?_
  refine n_then ?_
  refine wp_seq ?_
  refine rg ?_
  refine st (asI rfl) ?_
  refine rg_end ?_
  refine n_then ?_
  refine wp_seq ?_
  refine wp_seq ?_
  refine rg ?_
  refine st (mvS rfl) ?_
  refine st (y_len Try.underlying23 rfl) ?_
  refine st (mvI rfl) ?_
  refine rg_end ?_
  refine n_then ?_
  refine wp_block ?_
  refine lp (γ := Nat) [3, 5, 18, 19, 20, 21, 22, 23, 24, 25, 26, 27] (fun k => [(18, .int .i64 (k : Int)), (3, .int .i64 (totT rows k))]) (fun k w_ => Ext w w_ ∧ (k : Int) ≤ rows.length) (fun k => rows.length - k) 0 ⟨rfl, rfl, trivial⟩ ⟨Out.refl _ _ _, by omega⟩ ?_
  rintro k hav_ w1 ⟨ho2, hk_⟩
  have hlp0 := ho2
  have hz3 := ho2.size
  replace hP := hP.ext ho2
  replace hE := hE.step ho2 (.inl (Nat.le_refl _))
  refine wp_seq ?_
  refine rg ?_
  refine st (y_lss rfl rfl) ?_
  refine rg_end ?_
  refine n_then ?_
  refine wp_seq ?_
  refine cnd rfl (fun hc0 => ?_) (fun hc0 => ?_)
  ·
    try simp only [decide_eq_true_eq, decide_eq_false_iff_not, Bool.not_eq_true', Bool.not_eq_false', Bool.and_eq_true, Bool.or_eq_true, Bool.or_eq_false_iff, Bool.cond_true_right, Bool.cond_false_right, Bool.cond_true_left, Bool.cond_false_left, ne_eq, Decidable.not_not, bne_iff_ne, beq_iff_eq, beq_eq_false_iff_ne, Bool.not_true, Bool.not_false] at hc0
    have htb := tot_b hsm (k := k) (by omega)
    have htk := hsm.totk (k := k) (by omega)
    have hr4 := (hsm.row _ (el_mem (l := rows) (i := (k : Int)) (by omega) hc0)).2.1
    refine wp_skip ?_
    refine n_then ?_
    refine wp_seq ?_
    refine wp_block ?_
    refine wp_seq ?_
    refine rg ?_
    refine st (y_ix hP.tb sl23 rfl (rfl) rfl (by omega) (by omega)) ?_
    refine st (y_le hP.tb na35 rfl (by omega) (by omega) rfl) ?_
    refine st (asS rfl) ?_
    refine rg_end ?_
    refine n_then ?_
    refine rg ?_
    refine st (mvI rfl) ?_
    refine st (mvS rfl) ?_
    refine st (y_len Try.underlying35 rfl) ?_
    refine st (y_add rfl rfl (by omega)) ?_
    refine st (y_mul rfl rfl (by omega)) ?_
    refine st (asI rfl) ?_
    refine rg_end ?_
    refine n_blk ?_
    refine n_then ?_
    refine rg ?_
    refine st (y_add rfl rfl (by omega)) ?_
    refine st (mvI rfl) ?_
    refine rg_end ?_
    exact n_then ⟨k + 1, _, rfl, same_lk rfl (same_h0), ⟨rfl, rfl, trivial⟩, ⟨hlp0, by omega⟩, by first | omega | (dsimp only; omega)⟩
  ·
    try simp only [decide_eq_true_eq, decide_eq_false_iff_not, Bool.not_eq_true', Bool.not_eq_false', Bool.and_eq_true, Bool.or_eq_true, Bool.or_eq_false_iff, Bool.cond_true_right, Bool.cond_false_right, Bool.cond_true_left, Bool.cond_false_left, ne_eq, Decidable.not_not, bne_iff_ne, beq_iff_eq, beq_eq_false_iff_ne, Bool.not_true, Bool.not_false] at hc0
    have hke : k = rows.length := by omega
    subst hke
    rw [hN0]
    refine wp_exit ?_
    refine e_then (e_then (e_blk (?_)))
    refine n_then ?_
    refine wp_seq ?_
    refine rg ?_
    refine st (mvI rfl) ?_
    refine sd (d_make (m := N0) (lo := w.heap.size) (enc := encB) (e0 := false) sl31 info4 (fun _ => rfl) rfl rfl rfl (by omega) (by unfold maxLen; omega) (by omega) ?_)
    intro bF w4 hbbF hs6 ho5 hsf
    have hz8 := ho5.size
    replace hP := hP.ext ho5
    replace hE := hE.step ho5 (.inl (Nat.le_refl _))
    refine st (asS rfl) ?_
    refine rg_end ?_
    refine n_then ?_
    refine wp_seq ?_
    refine wp_seq ?_
    refine rg ?_
    refine st (asB rfl) ?_
    refine rg_end ?_
    refine n_then ?_
    refine wp_block ?_
    obtain ⟨yF, hyF⟩ : ∃ z, z = bF + 1 := ⟨_, rfl⟩
    rw [← hyF] at hsf
    refine lp (γ := List Bool × Bool) [7, 8, 9, 10, 11, 12, 13, 15, 30, 31, 32, 33, 34, 35, 36, 37, 38, 39, 40, 41, 42, 43, 44, 45, 46, 47, 48, 49, 50, 51, 52, 53, 54, 55, 56, 57, 58, 59, 60, 61, 62, 63, 64, 65, 66, 67, 68, 69, 70, 71, 72, 73, 74, 75, 76, 77, 78, 79, 80, 81, 82, 83, 84, 85, 86, 87, 88, 89, 90, 91, 92, 93, 94, 95, 96, 97, 98, 99, 100, 101, 102, 103, 104, 105, 106, 107, 108, 109, 110, 111, 112, 113, 114] (fun ⟨Sf, more⟩ => [(7, .bool more)]) (fun ⟨Sf, more⟩ w_ => Out bF (bF + 1) w4 w_ ∧ RIv rows N0 Sf ∧ (more = false → Closed rows Sf (N0 : Int)) ∧ Ow 4 encB 1 w.heap.size yF w_ (some ⟨bF, 0, none⟩) N0 Sf) (fun ⟨Sf, more⟩ => 2 * cfB Sf + (if more = true then 1 else 0)) (List.replicate N0 false, true) ⟨rfl, trivial⟩ ⟨Out.refl _ _ _, rc_start hN0, (fun h => by cases h), hsf⟩ ?_
    rintro ⟨Sf, more⟩ hav_ w9 ⟨ho10, hri, hcl, hsf⟩
    have hlp1 := ho10
    have hz11 := ho10.size
    replace hP := hP.out ho10 (by first | omega | (simp only [blk_some, hi1_some] at *; omega))
    replace hE := hE.step ho10 (by first | omega | (simp only [blk_some, hi1_some] at *; omega))
    refine wp_seq ?_
    refine wp_seq ?_
    refine rg ?_
    refine st (mvB rfl) ?_
    refine rg_end ?_
    refine n_then ?_
    refine cnd rfl (fun hc1 => ?_) (fun hc1 => ?_)
    ·
      try simp only [decide_eq_true_eq, decide_eq_false_iff_not, Bool.not_eq_true', Bool.not_eq_false', Bool.and_eq_true, Bool.or_eq_true, Bool.or_eq_false_iff, Bool.cond_true_right, Bool.cond_false_right, Bool.cond_true_left, Bool.cond_false_left, ne_eq, Decidable.not_not, bne_iff_ne, beq_iff_eq, beq_eq_false_iff_ne, Bool.not_true, Bool.not_false] at hc1
      have hmt : more = true := hc1
      refine wp_skip ?_
      refine n_then ?_
      refine wp_block ?_
      refine wp_seq ?_
      refine rg ?_
      refine st (asB rfl) ?_
      refine rg_end ?_
      refine n_then ?_
      refine wp_seq ?_
      refine rg ?_
      refine st (asI rfl) ?_
      refine rg_end ?_
      refine n_then ?_
      refine wp_block ?_
      refine lp (γ := Nat × List Bool × Bool) [7, 8, 9, 10, 11, 12, 13, 15, 31, 32, 33, 34, 35, 36, 37, 38, 39, 40, 41, 42, 43, 44, 45, 46, 47, 48, 49, 50, 51, 52, 53, 54, 55, 56, 57, 58, 59, 60, 61, 62, 63, 64, 65, 66, 67, 68, 69, 70, 71, 72, 73, 74, 75, 76, 77, 78, 79, 80, 81, 82, 83, 84, 85, 86, 87, 88, 89, 90, 91, 92, 93, 94, 95, 96, 97, 98, 99, 100, 101, 102, 103, 104, 105, 106, 107, 108, 109, 110, 111, 112, 113, 114] (fun ⟨k, S2, more2⟩ => [(8, .int .i64 (k : Int)), (7, .bool more2)]) (fun ⟨k, S2, more2⟩ w_ => Out bF (bF + 1) w9 w_ ∧ (k : Int) ≤ N0 ∧ RIv rows N0 S2 ∧ (more2 = false → S2 = Sf ∧ Closed rows S2 (k : Int)) ∧ cfB S2 ≤ cfB Sf ∧ (more2 = true → cfB S2 < cfB Sf) ∧ Ow 4 encB 1 w.heap.size yF w_ (some ⟨bF, 0, none⟩) N0 S2) (fun ⟨k, S2, more2⟩ => N0 - k) (0, Sf, false) ⟨rfl, rfl, trivial⟩ ⟨Out.refl _ _ _, by omega, hri, (fun _ => ⟨rfl, fun a ha h => by have := idx_rng (rows := rows) (a := a) (k := rows.length) ha.rng; omega⟩), Nat.le_refl _, (fun h => by cases h), hsf⟩ ?_
      rintro ⟨k, S2, more2⟩ hav_ w12 ⟨ho13, hk_, hri2, hcl2, hcle, hct, hsf⟩
      have hlp2 := ho13
      have hz14 := ho13.size
      replace hP := hP.out ho13 (by first | omega | (simp only [blk_some, hi1_some] at *; omega))
      replace hE := hE.step ho13 (by first | omega | (simp only [blk_some, hi1_some] at *; omega))
      replace hlp1 := hlp1.step ho13 (by first | omega | (simp only [blk_some, hi1_some] at *; omega))
      refine wp_seq ?_
      refine wp_seq ?_
      refine rg ?_
      refine st (mvI rfl) ?_
      refine st (mvI rfl) ?_
      refine st (y_lss rfl rfl) ?_
      refine rg_end ?_
      refine n_then ?_
      refine cnd rfl (fun hc2 => ?_) (fun hc2 => ?_)
      ·
        try simp only [decide_eq_true_eq, decide_eq_false_iff_not, Bool.not_eq_true', Bool.not_eq_false', Bool.and_eq_true, Bool.or_eq_true, Bool.or_eq_false_iff, Bool.cond_true_right, Bool.cond_false_right, Bool.cond_true_left, Bool.cond_false_left, ne_eq, Decidable.not_not, bne_iff_ne, beq_iff_eq, beq_eq_false_iff_ne, Bool.not_true, Bool.not_false] at hc2
        have hkN : k < N0 := by omega
        have hsl2 := hri2.len
        refine wp_skip ?_
        refine n_then ?_
        refine wp_seq ?_
        refine wp_block ?_
        refine wp_seq ?_
        refine rg ?_
        refine st (mvS rfl) ?_
        refine st (y_len Try.underlying23 rfl) ?_
        obtain ⟨zA, hzA⟩ : ∃ z, z = w12.heap.size := ⟨_, rfl⟩
        refine sd (d_make (m := rows.length) (lo := zA) (enc := encI) (e0 := (0 : Int)) sl22 info3 (fun _ => rfl) rfl rfl rfl (by omega) (by unfold maxLen; omega) (by omega) ?_)
        intro bA w15 hbbA hs17 ho16 hx
        have hz19 := ho16.size
        replace hP := hP.ext ho16
        replace hE := hE.step ho16 (.inl (Nat.le_refl _))
        replace hlp1 := hlp1.step ho16 (.inl (Nat.le_refl _))
        replace hsf := hsf.ext ho16
        replace hlp2 := hlp2.step ho16 (.inl (Nat.le_refl _))
        refine st (asS rfl) ?_
        refine rg_end ?_
        refine n_then ?_
        refine wp_seq ?_
        refine rg ?_
        refine st (mvI rfl) ?_
        refine st (asI rfl) ?_
        refine rg_end ?_
        refine n_then ?_
        refine wp_seq ?_
        refine wp_seq ?_
        refine rg ?_
        refine st (mvS rfl) ?_
        refine st (y_len Try.underlying23 rfl) ?_
        refine st (y_sub rfl rfl (by omega)) ?_
        refine st (asI rfl) ?_
        refine rg_end ?_
        refine n_then ?_
        refine wp_block ?_
        obtain ⟨yA, hyA⟩ : ∃ z, z = bA + 1 := ⟨_, rfl⟩
        rw [← hyA] at hx
        refine lp (γ := Nat × List Int × Int) [10, 11, 43, 44, 45, 46, 47, 48, 49, 50, 51, 52, 53, 54, 55, 56, 57, 58, 59, 60, 61, 62, 63, 64, 65, 66] (fun ⟨t, x, kk⟩ => [(11, .int .i64 ((t : Int) - 1)), (10, .int .i64 kk)]) (fun ⟨t, x, kk⟩ w_ => Out bA (bA + 1) w15 w_ ∧ (t : Int) ≤ rows.length ∧ DcI rows (k : Int) t x kk ∧ Ow 3 encI 1 zA yA w_ (some ⟨bA, 0, none⟩) rows.length x) (fun ⟨t, x, kk⟩ => t) (rows.length, List.replicate rows.length 0, (k : Int)) ⟨rfl, rfl, trivial⟩ ⟨Out.refl _ _ _, by omega, DcI.start (by omega) (by omega), hx⟩ ?_
        rintro ⟨t, x, kk⟩ hav_ w20 ⟨ho21, ht_, hdc, hx⟩
        have hlp3 := ho21
        have hz22 := ho21.size
        replace hP := hP.out ho21 (by first | omega | (simp only [blk_some, hi1_some] at *; omega))
        replace hE := hE.step ho21 (by first | omega | (simp only [blk_some, hi1_some] at *; omega))
        replace hlp1 := hlp1.step ho21 (by first | omega | (simp only [blk_some, hi1_some] at *; omega))
        have hrnhsf := hsf.rng
        replace hsf := hsf.out ho21 (by first | omega | (simp only [blk_some, hi1_some] at *; omega))
        replace hlp2 := hlp2.step ho21 (by first | omega | (simp only [blk_some, hi1_some] at *; omega))
        refine wp_seq ?_
        refine wp_seq ?_
        refine rg ?_
        refine st (mvI rfl) ?_
        refine st (y_geq rfl rfl) ?_
        refine rg_end ?_
        refine n_then ?_
        refine cnd rfl (fun hc3 => ?_) (fun hc3 => ?_)
        ·
          try simp only [decide_eq_true_eq, decide_eq_false_iff_not, Bool.not_eq_true', Bool.not_eq_false', Bool.and_eq_true, Bool.or_eq_true, Bool.or_eq_false_iff, Bool.cond_true_right, Bool.cond_false_right, Bool.cond_true_left, Bool.cond_false_left, ne_eq, Decidable.not_not, bne_iff_ne, beq_iff_eq, beq_eq_false_iff_ne, Bool.not_true, Bool.not_false] at hc3
          obtain ⟨s, rfl⟩ : ∃ s, t = s + 1 := ⟨t - 1, by omega⟩
          have hs1 : (((s + 1 : Nat) : Int) - 1) = (s : Int) := by omega
          have hsl3 : s < rows.length := by omega
          have hxl := hdc.len
          have hr4 := (hsm.row _ (el_mem (l := rows) (i := (s : Int)) (by omega) (by omega))).2.1
          have hdr := hdc.rng
          have htk := hsm.totk (k := s + 1) (by omega)
          have hdn := hdc.next hsl3
          have hmm : 0 ≤ kk.tmod (((el rows (s : Int)).st.length : Int) + 2) ∧ kk.tmod (((el rows (s : Int)).st.length : Int) + 2) ≤ 216 := by
            rw [Int.tmod_eq_emod_of_nonneg hdr.1]
            have := Int.emod_lt_of_pos kk (show 0 < ((el rows (s : Int)).st.length : Int) + 2 by omega)
            have := Int.emod_nonneg kk (show (((el rows (s : Int)).st.length : Int) + 2) ≠ 0 by omega)
            omega
          refine wp_skip ?_
          refine n_then ?_
          refine wp_seq ?_
          refine wp_block ?_
          refine wp_seq ?_
          refine rg ?_
          refine st (mvS rfl) ?_
          refine st (mvI rfl) ?_
          rw [hs1]
          refine st (mvI rfl) ?_
          refine st (mvS rfl) ?_
          refine st (mvI rfl) ?_
          rw [hs1]
          refine st (y_ix hP.tb sl23 rfl (rfl) rfl (by omega) (by omega)) ?_
          refine st (y_le hP.tb na35 rfl (by omega) (by omega) rfl) ?_
          refine st (y_len Try.underlying35 rfl) ?_
          refine st (y_add rfl rfl (by omega)) ?_
          refine st (y_rem rfl rfl (by omega)) ?_
          refine st (y_sub rfl rfl (by omega)) ?_
          refine st (y_ix hx.sl sl22 rfl (by omega) rfl (by omega) (by omega)) ?_
          refine sd0 (d_se (j := 0) (e' := (kk.tmod (((el rows (s : Int)).st.length : Int) + 2) - 1)) hx sz3 rfl rfl rfl (by omega) (by omega) (Nat.le_of_ble_eq_true rfl) rfl ?_)
          intro w23 hs25 ho24 hx'
          have hrhx := hx.rng
          clear hx; have hx := hx'; clear hx'
          have hz26 := ho24.size
          replace hP := hP.out ho24 (by first | omega | (simp only [blk_some, hi1_some] at *; omega))
          replace hE := hE.step ho24 (by first | omega | (simp only [blk_some, hi1_some] at *; omega))
          replace hlp1 := hlp1.step ho24 (by first | omega | (simp only [blk_some, hi1_some] at *; omega))
          replace hsf := hsf.out ho24 (by first | omega | (simp only [blk_some, hi1_some] at *; omega))
          replace hlp2 := hlp2.step ho24 (by first | omega | (simp only [blk_some, hi1_some] at *; omega))
          replace hlp3 := hlp3.step ho24 (by first | omega | (simp only [blk_some, hi1_some] at *; omega))
          rw [Int.toNat_natCast] at hx
          refine rg_end ?_
          refine n_then ?_
          refine rg ?_
          refine st (mvI rfl) ?_
          refine st (mvS rfl) ?_
          refine st (mvI rfl) ?_
          rw [hs1]
          refine st (y_ix hP.tb sl23 rfl (rfl) rfl (by omega) (by omega)) ?_
          refine st (y_le hP.tb na35 rfl (by omega) (by omega) rfl) ?_
          refine st (y_len Try.underlying35 rfl) ?_
          refine st (y_add rfl rfl (by omega)) ?_
          refine st (y_quo rfl rfl (by omega) (by omega)) ?_
          refine st (asI rfl) ?_
          refine rg_end ?_
          refine n_blk ?_
          refine n_then ?_
          refine rg ?_
          refine st (mvI rfl) ?_
          rw [hs1]
          refine st (y_sub rfl rfl (by omega)) ?_
          refine st (asI rfl) ?_
          refine rg_end ?_
          exact n_then ⟨(s, _, _), _, rfl, same_lk rfl (same_h0), ⟨rfl, rfl, trivial⟩, ⟨hlp3, by omega, hdn, hx⟩, by first | omega | (dsimp only; omega)⟩
        ·
          try simp only [decide_eq_true_eq, decide_eq_false_iff_not, Bool.not_eq_true', Bool.not_eq_false', Bool.and_eq_true, Bool.or_eq_true, Bool.or_eq_false_iff, Bool.cond_true_right, Bool.cond_false_right, Bool.cond_true_left, Bool.cond_false_left, ne_eq, Decidable.not_not, bne_iff_ne, beq_iff_eq, beq_eq_false_iff_ne, Bool.not_true, Bool.not_false] at hc3
          have hte : t = 0 := by omega
          subst hte
          obtain ⟨hgx, hix⟩ := hdc.done
          have hxl := hgx.len
          refine wp_exit ?_
          refine e_then (e_then (e_blk (?_)))
          refine n_then ?_
          refine wp_seq ?_
          refine wp_seq ?_
          refine rg ?_
          refine st (mvS rfl) ?_
          refine st (mvI rfl) ?_
          refine st (y_ix hsf.sl sl31 rfl (by omega) rfl (by omega) (by omega)) ?_
          refine st (y_le hsf.sl na4 rfl (by omega) (by omega) rfl) ?_
          refine st (mvB rfl) ?_
          refine gspL 71 rfl (fun hg27 => ?_) (fun hg27 => ?_)
          ·
            have hg27n := hg27; try simp only [decide_eq_true_eq, decide_eq_false_iff_not, Bool.not_eq_true', Bool.not_eq_false', Bool.and_eq_true, Bool.or_eq_true, Bool.or_eq_false_iff, Bool.cond_true_right, Bool.cond_false_right, Bool.cond_true_left, Bool.cond_false_left, ne_eq, Decidable.not_not, bne_iff_ne, beq_iff_eq, beq_eq_false_iff_ne, Bool.not_true, Bool.not_false] at hg27n
            refine sts rfl rfl hg27 ?_
            refine sts rfl rfl hg27 ?_
            refine sts rfl rfl hg27 ?_
            refine sts rfl rfl hg27 ?_
            refine st (y_pickT rfl hg27 (v := .bool _) rfl) ?_
            refine rg_end ?_
            refine n_then ?_
            refine cnd rfl (fun hc4 => ?_) (fun hc4 => absurd hc4 (by decide))
            have hcl3 : more2 = false → S2 = Sf ∧ Closed rows S2 ((k + 1 : Nat) : Int) := fun h => ⟨(hcl2 h).1, cl_skip hgx hix (hcl2 h).2 (by
              first
              | exact .inl (by assumption)
              | (rcases ck_cases hck6 hva hgx with q | q
                 · exact absurd q.1 (by assumption)
                 · exact .inr (.inl q.2)))⟩
            refine wp_exit ?_
            refine e_then (e_blk (?_))
            refine n_then ?_
            refine rg ?_
            refine st (mvI rfl) ?_
            refine st (y_add rfl rfl (by omega)) ?_
            refine st (asI rfl) ?_
            refine rg_end ?_
            exact n_then ⟨(k + 1, _, _), _, rfl, same_lk rfl (same_hav rfl (same_lk rfl (same_h0))), ⟨rfl, rfl, trivial⟩, ⟨hlp2, (by first | omega | (dsimp only; omega)), (by first | exact hri3 | exact hri2), (by first | exact hcl3 | exact (fun h => by cases h)), (by first | omega | (dsimp only; omega)), (by first | exact hct | (intro _; first | omega | (dsimp only; omega))), hsf⟩, by first | omega | (dsimp only; omega)⟩
          ·
            have hg27n := hg27; try simp only [decide_eq_true_eq, decide_eq_false_iff_not, Bool.not_eq_true', Bool.not_eq_false', Bool.and_eq_true, Bool.or_eq_true, Bool.or_eq_false_iff, Bool.cond_true_right, Bool.cond_false_right, Bool.cond_true_left, Bool.cond_false_left, ne_eq, Decidable.not_not, bne_iff_ne, beq_iff_eq, beq_eq_false_iff_ne, Bool.not_true, Bool.not_false] at hg27n
            refine stg rfl rfl hg27 (mvS rfl) ?_
            refine stg rfl rfl hg27 (mvS rfl) ?_
            refine scg rfl rfl hg27 cl15 (ref35_CheckStateM_ok rows _ _ _ _ x _ _ _ _ _ hP hpn (Ow.sl hx) hln (by omega) rows.length (by omega)) rfl ?_
            rintro v32 w28 ⟨k6, rfl, hck6, ho29⟩
            have hz33 := ho29.size
            replace hP := hP.ext ho29
            replace hE := hE.step ho29 (.inl (Nat.le_refl _))
            replace hlp1 := hlp1.step ho29 (.inl (Nat.le_refl _))
            replace hsf := hsf.ext ho29
            replace hlp2 := hlp2.step ho29 (.inl (Nat.le_refl _))
            replace hx := hx.ext ho29
            refine stg rfl rfl hg27 (y_neq rfl rfl) ?_
            refine st (y_pickF rfl hg27 (v := .bool _) rfl) ?_
            refine rg_end ?_
            refine n_then ?_
            refine cnd rfl (fun hc4 => ?_) (fun hc4 => ?_)
            ·
              try simp only [decide_eq_true_eq, decide_eq_false_iff_not, Bool.not_eq_true', Bool.not_eq_false', Bool.and_eq_true, Bool.or_eq_true, Bool.or_eq_false_iff, Bool.cond_true_right, Bool.cond_false_right, Bool.cond_true_left, Bool.cond_false_left, ne_eq, Decidable.not_not, bne_iff_ne, beq_iff_eq, beq_eq_false_iff_ne, Bool.not_true, Bool.not_false] at hc4
              have hcl3 : more2 = false → S2 = Sf ∧ Closed rows S2 ((k + 1 : Nat) : Int) := fun h => ⟨(hcl2 h).1, cl_skip hgx hix (hcl2 h).2 (by
                first
                | exact .inl (by assumption)
                | (rcases ck_cases hck6 hva hgx with q | q
                   · exact absurd q.1 (by assumption)
                   · exact .inr (.inl q.2)))⟩
              refine wp_exit ?_
              refine e_then (e_blk (?_))
              refine n_then ?_
              refine rg ?_
              refine st (mvI rfl) ?_
              refine st (y_add rfl rfl (by omega)) ?_
              refine st (asI rfl) ?_
              refine rg_end ?_
              exact n_then ⟨(k + 1, _, _), _, rfl, same_lk rfl (same_hav rfl (same_lk rfl (same_h0))), ⟨rfl, rfl, trivial⟩, ⟨hlp2, (by first | omega | (dsimp only; omega)), (by first | exact hri3 | exact hri2), (by first | exact hcl3 | exact (fun h => by cases h)), (by first | omega | (dsimp only; omega)), (by first | exact hct | (intro _; first | omega | (dsimp only; omega))), hsf⟩, by first | omega | (dsimp only; omega)⟩
            ·
              try simp only [decide_eq_true_eq, decide_eq_false_iff_not, Bool.not_eq_true', Bool.not_eq_false', Bool.and_eq_true, Bool.or_eq_true, Bool.or_eq_false_iff, Bool.cond_true_right, Bool.cond_false_right, Bool.cond_true_left, Bool.cond_false_left, ne_eq, Decidable.not_not, bne_iff_ne, beq_iff_eq, beq_eq_false_iff_ne, Bool.not_true, Bool.not_false] at hc4
              have hnx : ¬ Hel rows x := by
                rcases ck_cases hck6 hva hgx with q | q
                · exact q.2
                · omega
              have hsf0 : el S2 (k : Int) = false := by assumption
              refine wp_skip ?_
              refine n_then ?_
              refine wp_seq ?_
              refine rg ?_
              refine st (mvS rfl) ?_
              refine st (mvS rfl) ?_
              refine sc cl21 (ref35_LeftM_ok rows _ _ _ _ x _ _ _ _ _ hP hpn (Ow.sl hx) hxl rows.length (by omega)) rfl ?_
              rintro v38 w34 ⟨rfl, ho35⟩
              have hz39 := ho35.size
              replace hP := hP.ext ho35
              replace hE := hE.step ho35 (.inl (Nat.le_refl _))
              replace hlp1 := hlp1.step ho35 (.inl (Nat.le_refl _))
              replace hsf := hsf.ext ho35
              replace hlp2 := hlp2.step ho35 (.inl (Nat.le_refl _))
              replace hx := hx.ext ho35
              refine st (asB rfl) ?_
              refine rg_end ?_
              refine n_then ?_
              refine wp_seq ?_
              refine rg ?_
              refine st (mvS rfl) ?_
              refine st (mvS rfl) ?_
              refine sc cl20 (ref35_MovesM_ok rows _ _ _ _ x _ _ _ _ _ hP hpn (Ow.sl hx) hln (by omega) rows.length (by omega)) rfl ?_
              rintro v44 w40 ⟨ad7, cc7, l7, rfl, hO7, hmv7, ho41⟩
              have hl7 := mv_ok hva hgx hnx hmv7
              have hm7 := mv_len hmv7
              have hO7r := hO7.rng
              have hz45 := ho41.size
              replace hP := hP.ext ho41
              replace hE := hE.step ho41 (.inl (Nat.le_refl _))
              replace hlp1 := hlp1.step ho41 (.inl (Nat.le_refl _))
              replace hsf := hsf.ext ho41
              replace hlp2 := hlp2.step ho41 (.inl (Nat.le_refl _))
              replace hx := hx.ext ho41
              refine st (asS rfl) ?_
              refine rg_end ?_
              refine n_then ?_
              refine wp_seq ?_
              refine wp_seq ?_
              refine rg ?_
              refine st (mvS rfl) ?_
              refine st (y_len Try.underlying22 rfl) ?_
              refine st (mvI rfl) ?_
              refine rg_end ?_
              refine n_then ?_
              refine wp_block ?_
              refine lp (γ := Nat × Bool) [12, 15, 85, 86, 87, 88, 89, 90, 91, 92, 93, 94, 95, 96, 97, 98, 99, 100, 101, 102, 103, 104, 105, 106, 107, 108, 109, 110] (fun ⟨j, ok⟩ => [(85, .int .i64 (j : Int)), (12, .bool ok)]) (fun ⟨j, ok⟩ w_ => Out bA (bA + 1) w40 w_ ∧ (j : Int) ≤ l7.length ∧ (ok = true ↔ leftB rows x = true ∨ ∃ i, i < j ∧ el S2 (idxT rows (nxA x (el l7 (i : Int)).toNat) rows.length) = true) ∧ Ow 3 encI 1 zA yA w_ (some ⟨bA, 0, none⟩) rows.length x) (fun ⟨j, ok⟩ => l7.length - j) (0, _) ⟨rfl, rfl, trivial⟩ ⟨Out.refl _ _ _, by omega, (by simp), hx⟩ ?_
              rintro ⟨j, ok⟩ hav_ w46 ⟨ho47, hj_, hok, hx⟩
              have hlp4 := ho47
              have hz48 := ho47.size
              replace hP := hP.out ho47 (by first | omega | (simp only [blk_some, hi1_some] at *; omega))
              replace hE := hE.step ho47 (by first | omega | (simp only [blk_some, hi1_some] at *; omega))
              replace hlp1 := hlp1.step ho47 (by first | omega | (simp only [blk_some, hi1_some] at *; omega))
              replace hsf := hsf.out ho47 (by first | omega | (simp only [blk_some, hi1_some] at *; omega))
              replace hlp2 := hlp2.step ho47 (by first | omega | (simp only [blk_some, hi1_some] at *; omega))
              have hrnhO7 := hO7.rng
              replace hO7 := hO7.out ho47 (by first | omega | (simp only [blk_some, hi1_some] at *; omega))
              refine wp_seq ?_
              refine rg ?_
              refine st (y_lss rfl rfl) ?_
              refine rg_end ?_
              refine n_then ?_
              refine wp_seq ?_
              refine cnd rfl (fun hc5 => ?_) (fun hc5 => ?_)
              ·
                try simp only [decide_eq_true_eq, decide_eq_false_iff_not, Bool.not_eq_true', Bool.not_eq_false', Bool.and_eq_true, Bool.or_eq_true, Bool.or_eq_false_iff, Bool.cond_true_right, Bool.cond_false_right, Bool.cond_true_left, Bool.cond_false_left, ne_eq, Decidable.not_not, bne_iff_ne, beq_iff_eq, beq_eq_false_iff_ne, Bool.not_true, Bool.not_false] at hc5
                have hjl : (j : Int) < (movs rows x rows.length).length := by rw [← hl7]; exact hc5
                obtain ⟨t, ht, htl, hmv⟩ := movs_get hjl
                rw [← hl7] at ht
                have hgt := hgx.rng t htl
                have hr4 := (hsm.row _ (el_mem (l := rows) (i := (t : Int)) (by omega) (by omega))).2.1
                have hgn := hgx.nx htl hmv
                have hir := idx_rng (rows := rows) (a := nxA x t) (k := rows.length) hgn.rng
                have hxt := nx_t (at_ := x) (t := t) (by omega)
                have hnl : (nxA x t).length = rows.length := by rw [nx_len]; exact hxl
                refine wp_skip ?_
                refine n_then ?_
                refine wp_seq ?_
                refine wp_block ?_
                refine wp_seq ?_
                refine rg ?_
                refine st (y_ix hO7.sl sl22 rfl (rfl) rfl (by omega) (by omega)) ?_
                refine st (y_le hO7.sl na3 rfl (by omega) (by omega) rfl) ?_
                rw [ht]
                refine st (asI rfl) ?_
                refine rg_end ?_
                refine n_then ?_
                refine wp_seq ?_
                refine rg ?_
                refine st (mvS rfl) ?_
                refine st (mvI rfl) ?_
                refine st (y_ix hx.sl sl22 rfl (by omega) rfl (by omega) (by omega)) ?_
                refine st (y_le hx.sl na3 rfl (by omega) (by omega) rfl) ?_
                refine st (y_add rfl rfl (by omega)) ?_
                refine st (y_ix hx.sl sl22 rfl (by omega) rfl (by omega) (by omega)) ?_
                refine sd0 (d_se (j := 0) (e' := (el x (t : Int) + 1)) hx sz3 rfl rfl rfl (by omega) (by omega) (Nat.le_of_ble_eq_true rfl) rfl ?_)
                intro w49 hs51 ho50 hx'
                have hrhx := hx.rng
                clear hx; have hx := hx'; clear hx'
                have hz52 := ho50.size
                replace hP := hP.out ho50 (by first | omega | (simp only [blk_some, hi1_some] at *; omega))
                replace hE := hE.step ho50 (by first | omega | (simp only [blk_some, hi1_some] at *; omega))
                replace hlp1 := hlp1.step ho50 (by first | omega | (simp only [blk_some, hi1_some] at *; omega))
                replace hsf := hsf.out ho50 (by first | omega | (simp only [blk_some, hi1_some] at *; omega))
                replace hlp2 := hlp2.step ho50 (by first | omega | (simp only [blk_some, hi1_some] at *; omega))
                replace hO7 := hO7.out ho50 (by first | omega | (simp only [blk_some, hi1_some] at *; omega))
                replace hlp4 := hlp4.step ho50 (by first | omega | (simp only [blk_some, hi1_some] at *; omega))
                rw [Int.toNat_natCast] at hx
                replace hx : Ow 3 encI 1 zA yA w49 (some ⟨bA, 0, none⟩) rows.length (nxA x t) := hx
                refine rg_end ?_
                refine n_then ?_
                refine wp_seq ?_
                refine rg ?_
                refine st (mvB rfl) ?_
                refine st (mvB rfl) ?_
                refine gspL 96 rfl (fun hg53 => ?_) (fun hg53 => ?_)
                ·
                  have hg53n := hg53; try simp only [decide_eq_true_eq, decide_eq_false_iff_not, Bool.not_eq_true', Bool.not_eq_false', Bool.and_eq_true, Bool.or_eq_true, Bool.or_eq_false_iff, Bool.cond_true_right, Bool.cond_false_right, Bool.cond_true_left, Bool.cond_false_left, ne_eq, Decidable.not_not, bne_iff_ne, beq_iff_eq, beq_eq_false_iff_ne, Bool.not_true, Bool.not_false] at hg53n
                  have hok1 : ok = true := hg53
                  refine sts rfl rfl hg53 ?_
                  refine sts rfl rfl hg53 ?_
                  refine sts rfl rfl hg53 ?_
                  refine sts rfl rfl hg53 ?_
                  refine sts rfl rfl hg53 ?_
                  refine sts rfl rfl hg53 ?_
                  refine st (y_pickT rfl hg53 (v := .bool _) rfl) ?_
                  refine st (asB rfl) ?_
                  refine rg_end ?_
                  refine n_then ?_
                  refine rg ?_
                  refine st (mvS rfl) ?_
                  refine st (mvI rfl) ?_
                  refine st (y_ix hx.sl sl22 rfl (by omega) rfl (by omega) (by omega)) ?_
                  refine st (y_le hx.sl na3 rfl (by omega) (by omega) rfl) ?_
                  refine st (y_sub rfl rfl (by omega)) ?_
                  refine st (y_ix hx.sl sl22 rfl (by omega) rfl (by omega) (by omega)) ?_
                  refine sd0 (d_se (j := 0) (e' := (el (nxA x t) (t : Int) - 1)) hx sz3 rfl rfl rfl (by omega) (by omega) (Nat.le_of_ble_eq_true rfl) rfl ?_)
                  intro w54 hs56 ho55 hx'
                  have hrhx := hx.rng
                  clear hx; have hx := hx'; clear hx'
                  have hz57 := ho55.size
                  replace hP := hP.out ho55 (by first | omega | (simp only [blk_some, hi1_some] at *; omega))
                  replace hE := hE.step ho55 (by first | omega | (simp only [blk_some, hi1_some] at *; omega))
                  replace hlp1 := hlp1.step ho55 (by first | omega | (simp only [blk_some, hi1_some] at *; omega))
                  replace hsf := hsf.out ho55 (by first | omega | (simp only [blk_some, hi1_some] at *; omega))
                  replace hlp2 := hlp2.step ho55 (by first | omega | (simp only [blk_some, hi1_some] at *; omega))
                  replace hO7 := hO7.out ho55 (by first | omega | (simp only [blk_some, hi1_some] at *; omega))
                  replace hlp4 := hlp4.step ho55 (by first | omega | (simp only [blk_some, hi1_some] at *; omega))
                  rw [Int.toNat_natCast, nx_back (by omega)] at hx
                  refine rg_end ?_
                  refine n_blk ?_
                  refine n_then ?_
                  refine rg ?_
                  refine st (y_add rfl rfl (by omega)) ?_
                  refine st (mvI rfl) ?_
                  refine rg_end ?_
                  exact n_then ⟨(j + 1, _), _, rfl, same_lk rfl (same_h0), ⟨rfl, rfl, trivial⟩, ⟨hlp4, by omega, (by first | exact ok_T hok hok1 | exact ok_F hok hok0 (by rw [ht, Int.toNat_natCast])), hx⟩, by first | omega | (dsimp only; omega)⟩
                ·
                  have hg53n := hg53; try simp only [decide_eq_true_eq, decide_eq_false_iff_not, Bool.not_eq_true', Bool.not_eq_false', Bool.and_eq_true, Bool.or_eq_true, Bool.or_eq_false_iff, Bool.cond_true_right, Bool.cond_false_right, Bool.cond_true_left, Bool.cond_false_left, ne_eq, Decidable.not_not, bne_iff_ne, beq_iff_eq, beq_eq_false_iff_ne, Bool.not_true, Bool.not_false] at hg53n
                  have hok0 : ok = false := hg53
                  refine stg rfl rfl hg53 (mvS rfl) ?_
                  refine stg rfl rfl hg53 (mvS rfl) ?_
                  refine stg rfl rfl hg53 (mvS rfl) ?_
                  refine scg rfl rfl hg53 cl19 (law36_indexM_ok rows _ _ _ _ (nxA x t) _ _ _ _ _ hP hpn (Ow.sl hx) hsm hgn rows.length (by omega)) rfl ?_
                  rintro v62 w58 ⟨rfl, ho59⟩
                  have hz63 := ho59.size
                  replace hP := hP.ext ho59
                  replace hE := hE.step ho59 (.inl (Nat.le_refl _))
                  replace hlp1 := hlp1.step ho59 (.inl (Nat.le_refl _))
                  replace hsf := hsf.ext ho59
                  replace hlp2 := hlp2.step ho59 (.inl (Nat.le_refl _))
                  replace hO7 := hO7.ext ho59
                  replace hx := hx.ext ho59
                  replace hlp4 := hlp4.step ho59 (.inl (Nat.le_refl _))
                  refine stg rfl rfl hg53 (y_ix hsf.sl sl31 rfl (by omega) rfl (by omega) (by omega)) ?_
                  refine stg rfl rfl hg53 (y_le hsf.sl na4 rfl (by omega) (by omega) rfl) ?_
                  refine st (y_pickF rfl hg53 (v := .bool _) rfl) ?_
                  refine st (asB rfl) ?_
                  refine rg_end ?_
                  refine n_then ?_
                  refine rg ?_
                  refine st (mvS rfl) ?_
                  refine st (mvI rfl) ?_
                  refine st (y_ix hx.sl sl22 rfl (by omega) rfl (by omega) (by omega)) ?_
                  refine st (y_le hx.sl na3 rfl (by omega) (by omega) rfl) ?_
                  refine st (y_sub rfl rfl (by omega)) ?_
                  refine st (y_ix hx.sl sl22 rfl (by omega) rfl (by omega) (by omega)) ?_
                  refine sd0 (d_se (j := 0) (e' := (el (nxA x t) (t : Int) - 1)) hx sz3 rfl rfl rfl (by omega) (by omega) (Nat.le_of_ble_eq_true rfl) rfl ?_)
                  intro w64 hs66 ho65 hx'
                  have hrhx := hx.rng
                  clear hx; have hx := hx'; clear hx'
                  have hz67 := ho65.size
                  replace hP := hP.out ho65 (by first | omega | (simp only [blk_some, hi1_some] at *; omega))
                  replace hE := hE.step ho65 (by first | omega | (simp only [blk_some, hi1_some] at *; omega))
                  replace hlp1 := hlp1.step ho65 (by first | omega | (simp only [blk_some, hi1_some] at *; omega))
                  replace hsf := hsf.out ho65 (by first | omega | (simp only [blk_some, hi1_some] at *; omega))
                  replace hlp2 := hlp2.step ho65 (by first | omega | (simp only [blk_some, hi1_some] at *; omega))
                  replace hO7 := hO7.out ho65 (by first | omega | (simp only [blk_some, hi1_some] at *; omega))
                  replace hlp4 := hlp4.step ho65 (by first | omega | (simp only [blk_some, hi1_some] at *; omega))
                  rw [Int.toNat_natCast, nx_back (by omega)] at hx
                  refine rg_end ?_
                  refine n_blk ?_
                  refine n_then ?_
                  refine rg ?_
                  refine st (y_add rfl rfl (by omega)) ?_
                  refine st (mvI rfl) ?_
                  refine rg_end ?_
                  exact n_then ⟨(j + 1, _), _, rfl, same_lk rfl (same_h0), ⟨rfl, rfl, trivial⟩, ⟨hlp4, by omega, (by first | exact ok_T hok hok1 | exact ok_F hok hok0 (by rw [ht, Int.toNat_natCast])), hx⟩, by first | omega | (dsimp only; omega)⟩
              ·
                try simp only [decide_eq_true_eq, decide_eq_false_iff_not, Bool.not_eq_true', Bool.not_eq_false', Bool.and_eq_true, Bool.or_eq_true, Bool.or_eq_false_iff, Bool.cond_true_right, Bool.cond_false_right, Bool.cond_true_left, Bool.cond_false_left, ne_eq, Decidable.not_not, bne_iff_ne, beq_iff_eq, beq_eq_false_iff_ne, Bool.not_true, Bool.not_false] at hc5
                have hokE : ok = true ↔ leftB rows x = true ∨ ∃ t : Nat, t < rows.length ∧ movB rows x (t : Int) = true ∧ el S2 (idxT rows (nxA x t) rows.length) = true := by
                  rw [hok]
                  refine or_congr_right ⟨?_, ?_⟩
                  · rintro ⟨i, hi, p⟩
                    have hil : (i : Int) < (movs rows x rows.length).length := by rw [← hl7]; omega
                    obtain ⟨t, h1, h2, h3⟩ := movs_get hil
                    rw [← hl7] at h1
                    rw [h1, Int.toNat_natCast] at p
                    exact ⟨t, h2, h3, p⟩
                  · rintro ⟨t, h1, h2, h3⟩
                    have hm : (t : Int) ∈ l7 := by rw [hl7]; exact mem_movs.2 ⟨h1, h2⟩
                    obtain ⟨i, hi, e⟩ := List.getElem_of_mem hm
                    refine ⟨i, by omega, ?_⟩
                    rw [show el l7 (i : Int) = (t : Int) by simpa [el, hi] using e, Int.toNat_natCast]; exact h3
                refine wp_exit ?_
                refine e_then (e_then (e_blk (?_)))
                refine n_then ?_
                refine wp_seq ?_
                refine rg ?_
                refine st (mvB rfl) ?_
                refine rg_end ?_
                refine n_then ?_
                refine cnd rfl (fun hc6 => ?_) (fun hc6 => ?_)
                ·
                  try simp only [decide_eq_true_eq, decide_eq_false_iff_not, Bool.not_eq_true', Bool.not_eq_false', Bool.and_eq_true, Bool.or_eq_true, Bool.or_eq_false_iff, Bool.cond_true_right, Bool.cond_false_right, Bool.cond_true_left, Bool.cond_false_left, ne_eq, Decidable.not_not, bne_iff_ne, beq_iff_eq, beq_eq_false_iff_ne, Bool.not_true, Bool.not_false] at hc6
                  have hri3 := rc_set hri2 hkN hgx hix hnx (hokE.1 hc6)
                  have hcs := cfB_set S2 k (by have := el_get (l := S2) (i := (k : Int)) (by omega) (by omega); rw [hsf0] at this; simpa using this)
                  refine rg ?_
                  refine st (mvS rfl) ?_
                  refine st (mvI rfl) ?_
                  refine st (y_ix hsf.sl sl31 rfl (by omega) rfl (by omega) (by omega)) ?_
                  refine sd0 (d_se (j := 0) (e' := true) hsf sz4 rfl rfl rfl (by omega) (by omega) (Nat.le_of_ble_eq_true rfl) rfl ?_)
                  intro w68 hs70 ho69 hsf'
                  have hrhsf := hsf.rng
                  clear hsf; have hsf := hsf'; clear hsf'
                  have hz71 := ho69.size
                  replace hP := hP.out ho69 (by first | omega | (simp only [blk_some, hi1_some] at *; omega))
                  replace hE := hE.step ho69 (by first | omega | (simp only [blk_some, hi1_some] at *; omega))
                  replace hlp1 := hlp1.step ho69 (by first | omega | (simp only [blk_some, hi1_some] at *; omega))
                  replace hlp2 := hlp2.step ho69 (by first | omega | (simp only [blk_some, hi1_some] at *; omega))
                  replace hO7 := hO7.out ho69 (by first | omega | (simp only [blk_some, hi1_some] at *; omega))
                  have hrnhx := hx.rng
                  replace hx := hx.out ho69 (by first | omega | (simp only [blk_some, hi1_some] at *; omega))
                  rw [Int.toNat_natCast] at hsf
                  refine st (asB rfl) ?_
                  refine rg_end ?_
                  refine n_blk ?_
                  refine n_then ?_
                  refine rg ?_
                  refine st (mvI rfl) ?_
                  refine st (y_add rfl rfl (by omega)) ?_
                  refine st (asI rfl) ?_
                  refine rg_end ?_
                  exact n_then ⟨(k + 1, _, _), _, rfl, same_lk rfl (same_hav rfl (same_lk rfl (same_hav rfl (same_lk rfl (same_h0))))), ⟨rfl, rfl, trivial⟩, ⟨hlp2, (by first | omega | (dsimp only; omega)), (by first | exact hri3 | exact hri2), (by first | exact hcl3 | exact (fun h => by cases h)), (by first | omega | (dsimp only; omega)), (by first | exact hct | (intro _; first | omega | (dsimp only; omega))), hsf⟩, by first | omega | (dsimp only; omega)⟩
                ·
                  try simp only [decide_eq_true_eq, decide_eq_false_iff_not, Bool.not_eq_true', Bool.not_eq_false', Bool.and_eq_true, Bool.or_eq_true, Bool.or_eq_false_iff, Bool.cond_true_right, Bool.cond_false_right, Bool.cond_true_left, Bool.cond_false_left, ne_eq, Decidable.not_not, bne_iff_ne, beq_iff_eq, beq_eq_false_iff_ne, Bool.not_true, Bool.not_false] at hc6
                  have hcl3 : more2 = false → S2 = Sf ∧ Closed rows S2 ((k + 1 : Nat) : Int) := fun h => ⟨(hcl2 h).1, cl_skip hgx hix (hcl2 h).2 (.inr (.inr ⟨by
                    cases e : leftB rows x with
                    | false => rfl
                    | true => exact absurd (hokE.2 (.inl e)) (by rw [hc6]; decide), fun t h1 h2 h3 => absurd (hokE.2 (.inr ⟨t, h1, h2, h3⟩)) (by rw [hc6]; decide)⟩))⟩
                  refine wp_skip ?_
                  refine n_blk ?_
                  refine n_then ?_
                  refine rg ?_
                  refine st (mvI rfl) ?_
                  refine st (y_add rfl rfl (by omega)) ?_
                  refine st (asI rfl) ?_
                  refine rg_end ?_
                  exact n_then ⟨(k + 1, _, _), _, rfl, same_lk rfl (same_hav rfl (same_lk rfl (same_hav rfl (same_lk rfl (same_h0))))), ⟨rfl, rfl, trivial⟩, ⟨hlp2, (by first | omega | (dsimp only; omega)), (by first | exact hri3 | exact hri2), (by first | exact hcl3 | exact (fun h => by cases h)), (by first | omega | (dsimp only; omega)), (by first | exact hct | (intro _; first | omega | (dsimp only; omega))), hsf⟩, by first | omega | (dsimp only; omega)⟩
      ·
        try simp only [decide_eq_true_eq, decide_eq_false_iff_not, Bool.not_eq_true', Bool.not_eq_false', Bool.and_eq_true, Bool.or_eq_true, Bool.or_eq_false_iff, Bool.cond_true_right, Bool.cond_false_right, Bool.cond_true_left, Bool.cond_false_left, ne_eq, Decidable.not_not, bne_iff_ne, beq_iff_eq, beq_eq_false_iff_ne, Bool.not_true, Bool.not_false] at hc2
        have hke : k = N0 := by omega
        subst hke
        refine wp_exit ?_
        refine e_then (e_then (e_blk (?_)))
        refine n_blk ?_
        exact n_then ⟨(S2, more2), _, rfl, same_lk rfl (same_hav rfl (same_lk rfl (same_h0))), ⟨rfl, trivial⟩, ⟨hlp1, hri2, (fun h => (hcl2 h).2), hsf⟩, (by
  have hm2 : more2 = true ∨ more2 = false := by cases more2 <;> simp
  dsimp only
  rw [if_pos hmt]
  rcases hm2 with q | q
  · rw [if_pos q]; have := hct q; omega
  · rw [if_neg (by rw [q]; decide)]; omega)⟩
    ·
      try simp only [decide_eq_true_eq, decide_eq_false_iff_not, Bool.not_eq_true', Bool.not_eq_false', Bool.and_eq_true, Bool.or_eq_true, Bool.or_eq_false_iff, Bool.cond_true_right, Bool.cond_false_right, Bool.cond_true_left, Bool.cond_false_left, ne_eq, Decidable.not_not, bne_iff_ne, beq_iff_eq, beq_eq_false_iff_ne, Bool.not_true, Bool.not_false] at hc1
      have hrc := rc_end hva hN0 hri (hcl hc1)
      have hsl := hri.len
      refine wp_exit ?_
      refine e_then (e_then (e_blk (?_)))
      refine n_then ?_
      refine wp_seq ?_
      refine rg ?_
      refine st (mvS rfl) ?_
      refine st (asS rfl) ?_
      refine rg_end ?_
      refine n_then ?_
      refine wp_ret ?_
      refine ret1 (v := (.slice _ _ _)) Try.results18 rfl ?_
      exact ⟨_, _, Sf, by rw [hsl], hsf.sl.wide (Nat.le_refl _) (by omega), hrc, hE⟩
end Go.Proofs.Yteicgnmggkhlbaa
