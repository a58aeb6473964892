/-
  Walks of the functions, printed by a program out of the code and the loops' relations.
-/
import Derived.Test.YtdgkaahghlbocaaWkV
import Derived.Test.YtdgkaahghlbocaaProg
import Derived.KernelRfl
import Derived.Test.YtdgkaahghlbocaaC1
import Derived.Test.YtdgkaahghlbocaaWv
namespace Go.Proofs.Ytdgkaahghlbocaa
open Go.Wk Go.RowKit
set_option linter.unusedVariables false
set_option linter.unusedSimpArgs false
theorem agg75 : AggOf Try.prog 75 2 := fun w => ⟨Try.isAgg75 w, Try.sizeOf75 w⟩
theorem fld75_0 : FieldOf Try.prog 75 0 0 := fun b o w => by simp [Instr.fieldAt, fieldPlace, Instr.sureAddr, Addr.add_lit]
theorem fld75_1 : FieldOf Try.prog 75 1 1 := fun b o w => by simp [Instr.fieldAt, fieldPlace, Instr.sureAddr, Addr.add_lit]
theorem sz75 : SzOf Try.prog 75 2 := Try.sizeOf75
theorem zer75 : ZeroOf Try.prog 75 (.agg [.int .i64 0, .int .i64 0].toArray) := Try.zeroValue75

theorem vis_le {N : Net} {tree : List Int} {first : Int} {evs : List Int} {vis : List Vt} {Rd : List Bool} (h : Vis N tree first evs vis Rd) : evs.length ≤ N.evs.length :=
  inj_len evs.length (fun q => el evs (q : Int)) (fun q hq => h.rng _ (el_mem (by omega) (by omega))) (fun i j hi hj he => by have := h.inj (by omega) hj he; omega)
/-- From the first 'i' events met all arcs lead to events met. -/
def Dn (N : Net) (tree evs : List Int) (Rd : List Bool) (i : Nat) : Prop := ∀ j : Nat, j < i → ∀ p ∈ lvL N tree (el evs (j : Int)), el Rd (cyEn N p.1 p.2) = true
def DnA (N : Net) (l : List (Int × Int)) (Rd : List Bool) (q : Nat) : Prop := ∀ j : Nat, j < q → el Rd (cyEn N (el l (j : Int)).1 (el l (j : Int)).2) = true
/-- One more event met, nothing forgotten. -/
structure Mor (Rd Rd' : List Bool) : Prop where
  mor : ∀ x : Int, el Rd x = true → el Rd' x = true
theorem Mor.refl {Rd : List Bool} : Mor Rd Rd := ⟨fun _ h => h⟩
theorem Mor.put {Rd : List Bool} {e : Int} : Mor Rd (Rd.set e.toNat true) := ⟨fun x h => by
  by_cases q : x.toNat = e.toNat
  · unfold el at h ⊢
    rw [q] at h ⊢
    by_cases c : e.toNat < Rd.length
    · simp [c]
    · rw [List.set_eq_of_length_le (by omega)]; exact h
  · unfold el at h ⊢
    rw [List.getD_eq_getElem?_getD, List.getElem?_set_ne (by omega), ← List.getD_eq_getElem?_getD]; exact h⟩
theorem Dn.step {N : Net} {tree evs evs' : List Int} {Rd Rd' : List Bool} {i : Nat} (h : Dn N tree evs Rd i) (hm : Mor Rd Rd') (hp : ∀ j : Nat, j < i → el evs' (j : Int) = el evs (j : Int)) : Dn N tree evs' Rd' i := fun j hj p hp' => by
  rw [hp j hj] at hp'; exact hm.mor _ (h j hj p hp')
theorem DnA.step {N : Net} {l : List (Int × Int)} {Rd Rd' : List Bool} {q : Nat} (h : DnA N l Rd q) (hm : Mor Rd Rd') : DnA N l Rd' q := fun j hj => hm.mor _ (h j hj)
theorem DnA.succ {N : Net} {l : List (Int × Int)} {Rd : List Bool} {q : Nat} (h : DnA N l Rd q) (hq : el Rd (cyEn N (el l (q : Int)).1 (el l (q : Int)).2) = true) : DnA N l Rd (q + 1) := fun j hj => by
  by_cases e : j = q
  · subst e; exact hq
  · exact h j (by omega)
theorem Dn.succ {N : Net} {tree evs : List Int} {Rd : List Bool} {i : Nat} {l : List (Int × Int)} (h : Dn N tree evs Rd i) (hl : l = lvL N tree (el evs (i : Int))) {q : Nat} (hq : l.length ≤ q) (ha : DnA N l Rd q) : Dn N tree evs Rd (i + 1) := fun j hj p hp => by
  by_cases e : j = i
  · subst e
    rw [← hl] at hp
    obtain ⟨k, hk, rfl⟩ := List.getElem_of_mem hp
    have := ha k (by omega)
    simpa [el, hk] using this
  · exact h j (by omega) p hp
theorem Dn.done {N : Net} {tree : List Int} {first : Int} {evs : List Int} {vis : List Vt} {Rd : List Bool} {i : Nat} (hN : NetOk N) (htm : ∀ a ∈ tree, 0 ≤ a ∧ a < N.acts.length) (h : Vis N tree first evs vis Rd) (hd : Dn N tree evs Rd i) (hi : evs.length ≤ i) : ∀ a ∈ tree, ((el N.acts a).fr ∈ evs ↔ (el N.acts a).tt ∈ evs) := by
  intro a ha
  have hr := htm a ha
  have ok := hN.acs _ (el_mem hr.1 hr.2)
  constructor
  · intro hm
    obtain ⟨j, hj, he⟩ := List.getElem_of_mem hm
    have e : el evs (j : Int) = (el N.acts a).fr := by simp [el, hj, he]
    have := hd j (by omega) (a, 1) (by rw [e]; exact lvL_mem.2 ⟨ha, .inl ⟨rfl, rfl⟩⟩)
    exact (h.rd _ ok.t0 ok.t1).1 this
  · intro hm
    obtain ⟨j, hj, he⟩ := List.getElem_of_mem hm
    have e : el evs (j : Int) = (el N.acts a).tt := by simp [el, hj, he]
    have := hd j (by omega) (a, -1) (by rw [e]; exact lvL_mem.2 ⟨ha, .inr ⟨rfl, rfl⟩⟩)
    exact (h.rd _ ok.f0 ok.f1).1 this
theorem lv_ends {N : Net} {tree : List Int} {x : Int} {p : Int × Int} (h : p ∈ lvL N tree x) : p.1 ∈ tree ∧ (p.2 = 1 ∨ p.2 = -1) ∧ cySt N p.1 p.2 = x := by
  obtain ⟨h1, h2 | h2⟩ := lvL_mem.1 h
  · refine ⟨h1, .inl h2.1, ?_⟩; unfold cySt; rw [h2.1]; exact h2.2
  · refine ⟨h1, .inr h2.1, ?_⟩; unfold cySt; rw [h2.1]; exact h2.2
theorem cyEn_rng {N : Net} (hN : NetOk N) {a s : Int} (h0 : 0 ≤ a) (h1 : a < N.acts.length) (hs : s = 1 ∨ s = -1) : 0 ≤ cyEn N a s ∧ cyEn N a s < N.evs.length := by
  have ok := hN.acs _ (el_mem h0 h1)
  rcases arc_ends (N := N) (a := a) hs with ⟨_, e⟩ | ⟨_, e⟩ <;> rw [e]
  · exact ⟨ok.t0, ok.t1⟩
  · exact ⟨ok.f0, ok.f1⟩

set_option maxHeartbeats 4000000 in
set_option maxRecDepth 100000 in
theorem cycles_walk_ok (N : Net) (A : NetA) (lo hi : Nat) (rows : List ARw) (ar : Option Addr) (cr l2 h2 : Nat) (tree : List Int) (first : Int) (kf : Nat) (lb : List Value) (ca cb : Nat) (I : List Vt → World → Prop) (w : World) (hN : NetIn lo hi w N A) (hok : NetOk N) (htm : ∀ a ∈ tree, 0 ≤ a ∧ a < N.acts.length) (htl : tree.length ≤ 512) (hLv : LvIn l2 h2 w ar rows) (hlv : LvTo N tree rows) (f0 : 0 ≤ first) (f1 : first < N.evs.length) (hh1 : hi ≤ ca) (hh2 : h2 ≤ ca) (hz : ca ≤ w.heap.size) (hcb : cb ≤ w.heap.size) (hkf : Callable Try.prog kf) (hst : ∀ (v : List Vt) (w1 w2 : World) (a b : Nat), I v w1 → Out a b w1 w2 → (w.heap.size ≤ a ∨ b ≤ a) → I v w2) (hcl : (∀ (vis : List Vt) (evs : List Int) (Rd : List Bool) (e : Int) (p : Int × Int) (f : Int) (w1 : World), Vis N tree first evs (vis ++ [(e, p, f)]) Rd → I vis w1 → w.heap.size ≤ w1.heap.size → Cal Try.prog kf ([.int .i64 e, .agg (encArc p).toArray, .int .i64 f] ++ lb) w1 (fun v w2 => v = .tuple #[] ∧ I (vis ++ [(e, p, f)]) w2 ∧ Out ca cb w1 w2))) (hI : I [] w) : Cal Try.prog 47 [netV N A, .slice ar rows.length cr, .int .i64 first, .func (.func kf) #[] lb.toArray] w (fun v w' => ∃ evs vis Rd, v = .tuple #[] ∧ Vis N tree first evs vis Rd ∧ (∀ a ∈ tree, ((el N.acts a).fr ∈ evs ↔ (el N.acts a).tt ∈ evs)) ∧ I vis w' ∧ Out ca cb w w') := by
 have hev := hok.ev
 have hac := hok.ac
 replace hI : Kpi w.heap.size I [] w := ⟨hI, hst⟩
 have hE : Out ca cb w w := Out.refl _ _ w
 refine enter Try.func47 rfl Try.ntmps47 rfl ?_
 refine wp_seq ?_
 refine rg ?_
 refine sd (d_boxA rfl ?_)
 intro b4 w1 hbb4 hs3 ho2 hb4
 have hz4 := ho2.size
 replace hN := hN.ext ho2
 replace hLv := hLv.ext ho2
 replace hI := hI.ext ho2
 replace hE := hE.step ho2 (.inl (Nat.le_refl _))
 refine rg_end ?_
 refine n_then ?_
 refine wp_seq ?_
 refine rg ?_
 refine st (y_fld fld26_1 rfl) ?_
 refine st (y_lb hb4 na23 rfl rfl) ?_
 refine st (y_len Try.underlying23 rfl) ?_
 refine sd (d_make (m := N.evs.length) (lo := w.heap.size) (enc := encB) (e0 := false) sl66 info4 (fun _ => rfl) rfl rfl rfl (by omega) (by unfold maxLen; omega) (by omega) ?_)
 intro bR w5 hbbR hs7 ho6 hR
 have hz9 := ho6.size
 replace hN := hN.ext ho6
 replace hLv := hLv.ext ho6
 replace hI := hI.ext ho6
 replace hE := hE.step ho6 (.inl (Nat.le_refl _))
 replace hb4 := hb4.ext ho6
 refine st (asS rfl) ?_
 refine rg_end ?_
 refine n_then ?_
 refine wp_seq ?_
 refine rg ?_
 refine st (mvS rfl) ?_
 refine st (mvI rfl) ?_
 refine st (y_ix hR.sl sl66 rfl (by simp) rfl (f0) (by simp; omega)) ?_
 refine sd0 (d_se (j := 0) (e' := true) hR sz4 rfl rfl rfl (f0) (by simp; omega) (Nat.le_of_ble_eq_true rfl) rfl ?_)
 intro w10 hs12 ho11 hR'
 have hrhR := hR.rng
 clear hR; have hR := hR'; clear hR'
 have hz13 := ho11.size
 replace hN := hN.out ho11 (by first | omega | (simp only [blk_some, hi1_some] at *; omega))
 replace hLv := hLv.out ho11 (by first | omega | (simp only [blk_some, hi1_some] at *; omega))
 replace hI := hI.out ho11 (by first | omega | (simp only [blk_some, hi1_some] at *; omega))
 replace hE := hE.step ho11 (by first | omega | (simp only [blk_some, hi1_some] at *; omega))
 replace hb4 := hb4.out ho11 (by first | omega | (simp only [blk_some, hi1_some] at *; omega))
 refine rg_end ?_
 refine n_then ?_
 refine wp_seq ?_
 refine rg ?_
 refine st (mvI rfl) ?_
 refine sd (d_bsO (lo := bR + 1) (enc := encI) (l := [first]) (sz := 1) (fun _ => rfl) (bsl22_1 _ _) rfl rfl (by unfold maxLen; omega) (by omega) ?_)
 intro bq w14 hbbq hs16 ho15 hQ
 have hz17 := ho15.size
 replace hN := hN.ext ho15
 replace hLv := hLv.ext ho15
 replace hI := hI.ext ho15
 replace hE := hE.step ho15 (.inl (Nat.le_refl _))
 replace hb4 := hb4.ext ho15
 replace hR := hR.ext ho15
 refine st (asS rfl) ?_
 refine rg_end ?_
 refine n_then ?_
 refine wp_seq ?_
 refine rg ?_
 refine st (asI rfl) ?_
 refine rg_end ?_
 refine n_then ?_
 refine wp_block ?_
 refine lp (γ := Nat × List Int × List Vt × List Bool × Option Addr × Nat) [9, 10, 12, 13, 14, 24, 25, 26, 27, 28, 29, 30, 31, 32, 33, 34, 35, 36, 37, 38, 39, 40, 41, 42, 43, 44, 45, 46, 47, 48, 49, 50, 51, 52, 53, 54, 55, 56, 57, 58, 59, 60, 61, 62, 63, 64, 65, 66, 67, 68, 69, 70, 71, 72, 73, 74] (fun ⟨i, evs, vis, Rd, ae, ce⟩ => [(10, .int .i64 (i : Int)), (9, .slice ae evs.length ce)]) (fun ⟨i, evs, vis, Rd, ae, ce⟩ w_ => True ∧ i ≤ evs.length ∧ Vis N tree first evs vis Rd ∧ Dn N tree evs Rd i ∧ Kpi w.heap.size I vis w_ ∧ Ow 4 encB 1 w.heap.size (bR + 1) w_ (some ⟨bR, 0, none⟩) N.evs.length Rd ∧ Ow 3 encI 1 (bR + 1) w_.heap.size w_ ae ce evs ∧ Blk w_ b4 (netCells N A) ∧ NetIn lo hi w_ N A ∧ LvIn l2 h2 w_ ar rows ∧ Out ca cb w w_) (fun ⟨i, evs, vis, Rd, ae, ce⟩ => N.evs.length - i) (0, [first], [], _, _, _) ⟨rfl, rfl, trivial⟩ ⟨trivial, by simp, Vis.start f0 f1, (fun j hj => by omega), hI, hR, hQ.wide (by omega), hb4, hN, hLv, hE⟩ ?_
 rintro ⟨i, evs, vis, Rd, ae, ce⟩ hav_ w18 ⟨ho19, hi_, hvs, hdn, hI, hR, hQ, hb4, hN, hLv, hE⟩
 have hzE := hE.size
 have hvle := vis_le hvs
 have hb4l := hb4.lt
 have hRr := hR.rng
 refine wp_seq ?_
 refine wp_seq ?_
 refine rg ?_
 refine st (mvI rfl) ?_
 refine st (mvS rfl) ?_
 refine st (y_len Try.underlying22 rfl) ?_
 refine st (y_lss rfl rfl) ?_
 refine rg_end ?_
 refine n_then ?_
 refine cnd rfl (fun hc0 => ?_) (fun hc0 => ?_)
 ·
  try simp only [nm] at hc0
  have hxm : el evs (i : Int) ∈ evs := el_mem (by omega) hc0
  have hxr := hvs.rng _ hxm
  have hRl := hlv.1
  obtain ⟨x, hx⟩ : ∃ x, x = el evs (i : Int) := ⟨_, rfl⟩
  rw [← hx] at hxr hxm
  have hrl := hlv.2 x hxr.1 (by omega)
  have hll : (el rows x).l.length ≤ 1024 := by have := lvL_len N x tree; rw [hrl]; omega
  refine wp_skip ?_
  refine n_then ?_
  refine wp_seq ?_
  refine wp_block ?_
  refine wp_seq ?_
  refine rg ?_
  refine st (mvS rfl) ?_
  refine st (mvS rfl) ?_
  refine st (mvI rfl) ?_
  refine st (y_ix hQ.sl sl22 rfl (rfl) rfl (by omega) (by omega)) ?_
  refine st (y_le hQ.sl na3 rfl (by omega) (by omega) rfl) ?_
  rw [← hx]
  refine st (y_ix hLv.tb sl71 rfl (rfl) rfl (hxr.1) (by omega)) ?_
  refine st (y_le hLv.tb na87 rfl (hxr.1) (by omega) rfl) ?_
  have hrow := hLv.row x hxr.1 (by omega)
  refine st (y_len Try.underlying87 rfl) ?_
  refine st (mvI rfl) ?_
  refine rg_end ?_
  refine n_then ?_
  refine wp_block ?_
  refine lp (γ := Nat × List Int × List Vt × List Bool × Option Addr × Nat) [9, 12, 13, 14, 38, 39, 40, 41, 42, 43, 44, 45, 46, 47, 48, 49, 50, 51, 52, 53, 54, 55, 56, 57, 58, 59, 60, 61, 62, 63, 64, 65, 66, 67, 68, 69, 70, 71, 72, 73, 74] (fun ⟨q, evs1, vis1, Rd1, ae, ce⟩ => [(38, .int .i64 (q : Int)), (9, .slice ae evs1.length ce)]) (fun ⟨q, evs1, vis1, Rd1, ae, ce⟩ w_ => True ∧ (q : Int) ≤ (el rows x).l.length ∧ Vis N tree first evs1 vis1 Rd1 ∧ Dn N tree evs1 Rd1 i ∧ DnA N (el rows x).l Rd1 q ∧ el evs1 (i : Int) = x ∧ i < evs1.length ∧ Kpi w.heap.size I vis1 w_ ∧ Ow 4 encB 1 w.heap.size (bR + 1) w_ (some ⟨bR, 0, none⟩) N.evs.length Rd1 ∧ Ow 3 encI 1 (bR + 1) w_.heap.size w_ ae ce evs1 ∧ Blk w_ b4 (netCells N A) ∧ NetIn lo hi w_ N A ∧ LvIn l2 h2 w_ ar rows ∧ Out ca cb w w_) (fun ⟨q, evs1, vis1, Rd1, ae, ce⟩ => (el rows x).l.length - q) (0, evs, vis, Rd, ae, ce) ⟨rfl, rfl, trivial⟩ ⟨trivial, by omega, hvs, hdn, (fun j hj => by omega), hx.symm, by omega, hI, hR, hQ, hb4, hN, hLv, hE⟩ ?_
  rintro ⟨q, evs1, vis1, Rd1, ae, ce⟩ hav_ w20 ⟨ho21, hq, hvs1, hdn1, hda, hxi, hil, hI, hR, hQ, hb4, hN, hLv, hE⟩
  have hzE := hE.size
  have hb4l := hb4.lt
  have hRr := hR.rng
  refine wp_seq ?_
  refine rg ?_
  refine st (y_lss rfl rfl) ?_
  refine rg_end ?_
  refine n_then ?_
  refine wp_seq ?_
  refine cnd rfl (fun hc1 => ?_) (fun hc1 => ?_)
  ·
   try simp only [nm] at hc1
   have hpm := el_mem (l := (el rows x).l) (i := (q : Int)) (by omega) hc1
   rw [hrl] at hpm
   obtain ⟨hp1, hp2, hp3⟩ := lv_ends hpm
   rw [← hrl] at hp1 hp2 hp3
   have hpr := htm _ hp1
   obtain ⟨y0, y1⟩ := cyEn_rng hok hpr.1 hpr.2 hp2
   have hvl := hvs1.len
   have hvle := vis_le hvs1
   have hRl1 := hvs1.rl
   have hrow := hLv.row x hxr.1 (by omega)
   refine wp_skip ?_
   refine n_then ?_
   refine wp_seq ?_
   refine wp_block ?_
   refine wp_seq ?_
   refine rg ?_
   refine st (y_ix hrow sl87 rfl (rfl) rfl (by omega) (by omega)) ?_
   refine st (y_lw hrow agg75 rfl (by omega) (by omega)) ?_
   refine sd (d_allocA zer75 ?_)
   intro ba w22 hbba hs24 ho23 hba
   have hz25 := ho23.size
   replace hb4 := hb4.ext ho23
   replace hN := hN.ext ho23
   replace hLv := hLv.ext ho23
   replace hE := hE.step ho23 (.inl (Nat.le_refl _))
   replace hI := hI.ext ho23
   replace hR := hR.ext ho23
   replace hQ := hQ.ext ho23
   replace hrow := hrow.ext ho23
   refine sd0 (d_stN hba rfl rfl sz75 rfl rfl ?_)
   intro w26 hs28 ho27 hba'
   clear hba; have hba := hba'; clear hba'
   have hz29 := ho27.size
   replace hb4 := hb4.out ho27 (by first | omega | (simp only [blk_some, hi1_some] at *; omega))
   replace hN := hN.out ho27 (by first | omega | (simp only [blk_some, hi1_some] at *; omega))
   replace hLv := hLv.out ho27 (by first | omega | (simp only [blk_some, hi1_some] at *; omega))
   replace hE := hE.step ho27 (by first | omega | (simp only [blk_some, hi1_some] at *; omega))
   replace hI := hI.out ho27 (by first | omega | (simp only [blk_some, hi1_some] at *; omega))
   have hrnhR := hR.rng
   replace hR := hR.out ho27 (by first | omega | (simp only [blk_some, hi1_some] at *; omega))
   have hrnhQ := hQ.rng
   replace hQ := hQ.out ho27 (by first | omega | (simp only [blk_some, hi1_some] at *; omega))
   replace hrow := hrow.out ho27 (by first | omega | (simp only [blk_some, hi1_some] at *; omega))
   refine rg_end ?_
   refine n_then ?_
   refine wp_seq ?_
   refine rgD 13 (fun w_ => Ext w26 w_) (fun i => Nat.beq i 8) mixed (by kernel_rfl) ?_
   intro w30 ho31 hs32
   refine ⟨ho31, ?_⟩
   have hx33 := ho31
   refine tn rfl (fun _ hG => y_fld fld26_2 rfl) ?_
   refine tn rfl (fun _ hG => y_lb (hb4.ext hG) na24 rfl rfl) ?_
   refine tn rfl (fun _ hG => y_fld fld75_0 rfl) ?_
   refine tn rfl (fun _ hG => y_lb (hba.ext hG) na3 rfl rfl) ?_
   refine tn rfl (fun _ hG => y_ix (hN.a.ext hG) sl24 rfl (rfl) rfl (hpr.1) (hpr.2)) ?_
   refine tn rfl (fun _ hG => y_lw (hN.a.ext hG) agg43 rfl (hpr.1) (hpr.2)) ?_
   refine tn rfl (fun _ hG => y_fld fld75_1 rfl) ?_
   refine tn rfl (fun _ hG => y_lb (hba.ext hG) na3 rfl rfl) ?_
   refine tc rfl cl52 (cycles_ends_ok (el N.acts (el (el rows x).l (q : Int)).1) (el (el rows x).l (q : Int)).2 _) rfl ?_
   rintro v38 w34 ⟨rfl, ho35⟩
   rw [show endE (el N.acts (el (el rows x).l (q : Int)).1) (el (el rows x).l (q : Int)).2 = (cyEn N (el (el rows x).l (q : Int)).1 (el (el rows x).l (q : Int)).2) from rfl]
   have hx39 := hx33.step ho35 (.inl (Nat.le_refl _))
   have hz40 := ho35.size
   refine ⟨hx39, ?_⟩
   refine tn rfl (fun _ hG => mvT rfl) ?_
   refine tn rfl (fun _ hG => y_ext rfl rfl) ?_
   refine tn rfl (fun _ hG => y_ext rfl rfl) ?_
   refine tn rfl (fun _ hG => asI rfl) ?_
   refine t_end ?_
   have hz41 := hx39.size
   replace hb4 := hb4.ext hx39
   replace hN := hN.ext hx39
   replace hLv := hLv.ext hx39
   replace hE := hE.step hx39 (.inl (Nat.le_refl _))
   replace hI := hI.ext hx39
   replace hR := hR.ext hx39
   replace hQ := hQ.ext hx39
   replace hrow := hrow.ext hx39
   replace hba := hba.ext hx39
   refine st (asI rfl) ?_
   refine rg_end ?_
   refine n_then ?_
   refine wp_seq ?_
   refine rg ?_
   refine st (mvS rfl) ?_
   refine st (mvI rfl) ?_
   refine st (y_ix hR.sl sl66 rfl (hvs1.rl.symm) rfl (y0) (by omega)) ?_
   refine st (y_le hR.sl na4 rfl (y0) (by omega) rfl) ?_
   refine st (y_not rfl) ?_
   refine rg_end ?_
   refine n_then ?_
   refine cnd rfl (fun hc2 => ?_) (fun hc2 => ?_)
   ·
    try simp only [nm] at hc2
    have hRf : el Rd1 (cyEn N (el (el rows x).l (q : Int)).1 (el (el rows x).l (q : Int)).2) = false := by assumption
    have hvs2 := hvs1.add (e := (cyEn N (el (el rows x).l (q : Int)).1 (el (el rows x).l (q : Int)).2)) (p := (el (el rows x).l (q : Int))) (f := x) y0 y1 hRf hp1 hp2 hp3 rfl (i := i) (by omega) hxi
    have hmr : Mor Rd1 (Rd1.set ((cyEn N (el (el rows x).l (q : Int)).1 (el (el rows x).l (q : Int)).2)).toNat true) := Mor.put
    have hdn2 := hdn1.step (evs' := evs1 ++ [(cyEn N (el (el rows x).l (q : Int)).1 (el (el rows x).l (q : Int)).2)]) hmr (fun j hj => el_app1 (by omega))
    have hda2 := (hda.step hmr).succ (elSetS y0 (by omega))
    have hxi2 : el (evs1 ++ [(cyEn N (el (el rows x).l (q : Int)).1 (el (el rows x).l (q : Int)).2)]) (i : Int) = x := by rw [el_app1 (by omega)]; exact hxi
    have hil2 : i < (evs1 ++ [(cyEn N (el (el rows x).l (q : Int)).1 (el (el rows x).l (q : Int)).2)]).length := by simp; omega
    refine wp_seq ?_
    refine rg ?_
    refine st (mvS rfl) ?_
    refine st (mvI rfl) ?_
    refine st (y_ix hR.sl sl66 rfl (hvs1.rl.symm) rfl (y0) (by omega)) ?_
    refine sd0 (d_se (j := 0) (e' := true) hR sz4 rfl rfl rfl (y0) (by omega) (Nat.le_of_ble_eq_true rfl) rfl ?_)
    intro w42 hs44 ho43 hR'
    have hrhR := hR.rng
    clear hR; have hR := hR'; clear hR'
    have hz45 := ho43.size
    replace hb4 := hb4.out ho43 (by first | omega | (simp only [blk_some, hi1_some] at *; omega))
    replace hN := hN.out ho43 (by first | omega | (simp only [blk_some, hi1_some] at *; omega))
    replace hLv := hLv.out ho43 (by first | omega | (simp only [blk_some, hi1_some] at *; omega))
    replace hE := hE.step ho43 (by first | omega | (simp only [blk_some, hi1_some] at *; omega))
    replace hI := hI.out ho43 (by first | omega | (simp only [blk_some, hi1_some] at *; omega))
    replace hQ := hQ.out ho43 (by first | omega | (simp only [blk_some, hi1_some] at *; omega))
    replace hrow := hrow.out ho43 (by first | omega | (simp only [blk_some, hi1_some] at *; omega))
    replace hba := hba.out ho43 (by first | omega | (simp only [blk_some, hi1_some] at *; omega))
    refine rg_end ?_
    refine n_then ?_
    refine wp_seq ?_
    refine rg ?_
    refine st (mvS rfl) ?_
    refine st (mvI rfl) ?_
    refine sd (d_bs (bsl22_1 _ _) rfl ?_)
    intro bl49 w46 hbbl49 hs48 ho47 hbl49
    have hz50 := ho47.size
    replace hb4 := hb4.ext ho47
    replace hN := hN.ext ho47
    replace hLv := hLv.ext ho47
    replace hE := hE.step ho47 (.inl (Nat.le_refl _))
    replace hI := hI.ext ho47
    replace hR := hR.ext ho47
    replace hQ := hQ.ext ho47
    replace hrow := hrow.ext ho47
    replace hba := hba.ext ho47
    have hrhQ := hQ.rng
    refine sd (d_app (xs := [(cyEn N (el (el rows x).l (q : Int)).1 (el (el rows x).l (q : Int)).2)]) hQ sl22 infoz3 (by decide) rfl rfl rfl rfl (hbl49) (fun _ => rfl) (by simp; unfold maxLen; omega) (by simp; omega) (by omega) (by omega) ?_)
    intro ae1 ce1 w51 ho52 hQ'
    have hs53 := ho52.size
    clear hQ; have hQ := hQ'; clear hQ'
    have hz56 := ho52.size
    replace hb4 := hb4.out ho52 (by first | omega | (simp only [blk_some, hi1_some] at *; omega))
    replace hN := hN.out ho52 (by first | omega | (simp only [blk_some, hi1_some] at *; omega))
    replace hLv := hLv.out ho52 (by first | omega | (simp only [blk_some, hi1_some] at *; omega))
    replace hE := hE.step ho52 (by first | omega | (simp only [blk_some, hi1_some] at *; omega))
    replace hI := hI.out ho52 (by first | omega | (simp only [blk_some, hi1_some] at *; omega))
    replace hR := hR.out ho52 (by first | omega | (simp only [blk_some, hi1_some] at *; omega))
    replace hrow := hrow.out ho52 (by first | omega | (simp only [blk_some, hi1_some] at *; omega))
    replace hba := hba.out ho52 (by first | omega | (simp only [blk_some, hi1_some] at *; omega))
    refine st (asS rfl) ?_
    refine rg_end ?_
    refine n_then ?_
    refine rgD 7 (fun w_ => Ext w51 w_) (fun i => false) mixed (by kernel_rfl) ?_
    intro w57 ho58 hs59
    refine ⟨ho58, ?_⟩
    have hx60 := ho58
    refine tn rfl (fun _ hG => mvF rfl) ?_
    refine tn rfl (fun _ hG => mvI rfl) ?_
    refine tn rfl (fun _ hG => y_lbN (hba.ext hG) agg75 rfl) ?_
    refine tn rfl (fun _ hG => mvS rfl) ?_
    refine tn rfl (fun _ hG => mvI rfl) ?_
    refine tn rfl (fun _ hG => y_ix (hQ.ext hG).sl sl22 rfl (rfl) rfl (by omega) (by simp; omega)) ?_
    refine tn rfl (fun _ hG => y_le (hQ.ext hG).sl na3 rfl (by omega) (by simp; omega) rfl) ?_
    rw [hxi2]
    refine t_end ?_
    have hz61 := hx60.size
    replace hb4 := hb4.ext hx60
    replace hN := hN.ext hx60
    replace hLv := hLv.ext hx60
    replace hE := hE.step hx60 (.inl (Nat.le_refl _))
    replace hI := hI.ext hx60
    replace hR := hR.ext hx60
    replace hrow := hrow.ext hx60
    replace hba := hba.ext hx60
    replace hQ := hQ.ext hx60
    refine scv hkf rfl (hcl vis1 _ _ (cyEn N (el (el rows x).l (q : Int)).1 (el (el rows x).l (q : Int)).2) (el (el rows x).l (q : Int)) x _ hvs2 hI.it (by have := hE.size; omega)) rfl ?_
    rintro v66 w62 ⟨rfl, hI2, ho63⟩
    replace hI := Kpi.mk (z := w.heap.size) hI2 hI.st
    have hz67 := ho63.size
    replace hb4 := hb4.out ho63 (by first | omega | (simp only [blk_some, hi1_some] at *; omega))
    replace hN := hN.out ho63 (by first | omega | (simp only [blk_some, hi1_some] at *; omega))
    replace hLv := hLv.out ho63 (by first | omega | (simp only [blk_some, hi1_some] at *; omega))
    replace hE := hE.step ho63 (by first | omega | (simp only [blk_some, hi1_some] at *; omega))
    replace hR := hR.out ho63 (by first | omega | (simp only [blk_some, hi1_some] at *; omega))
    replace hrow := hrow.out ho63 (by first | omega | (simp only [blk_some, hi1_some] at *; omega))
    replace hba := hba.out ho63 (by first | omega | (simp only [blk_some, hi1_some] at *; omega))
    have hrnhQ := hQ.rng
    replace hQ := hQ.out ho63 (by first | omega | (simp only [blk_some, hi1_some] at *; omega))
    refine rg_end ?_
    refine n_blk ?_
    refine n_then ?_
    refine rg ?_
    refine st (y_add rfl rfl (by omega)) ?_
    refine st (mvI rfl) ?_
    refine rg_end ?_
    exact n_then ⟨(q + 1, _, _, _, _, _), _, rfl, same_lk rfl (same_h0), ⟨rfl, rfl, trivial⟩, ⟨trivial, by omega, hvs2, hdn2, hda2, hxi2, hil2, hI, hR, hQ.wide (by omega), hb4, hN, hLv, hE⟩, by first | omega | (dsimp only; omega)⟩
   ·
    try simp only [nm] at hc2
    have hRt : el Rd1 (cyEn N (el (el rows x).l (q : Int)).1 (el (el rows x).l (q : Int)).2) = true := by assumption
    have hvs2 := hvs1
    have hdn2 := hdn1
    have hda2 := hda.succ hRt
    have hxi2 := hxi
    have hil2 := hil
    refine wp_skip ?_
    refine n_blk ?_
    refine n_then ?_
    refine rg ?_
    refine st (y_add rfl rfl (by omega)) ?_
    refine st (mvI rfl) ?_
    refine rg_end ?_
    exact n_then ⟨(q + 1, _, _, _, _, _), _, rfl, same_lk rfl (same_h0), ⟨rfl, rfl, trivial⟩, ⟨trivial, by omega, hvs2, hdn2, hda2, hxi2, hil2, hI, hR, hQ.wide (by omega), hb4, hN, hLv, hE⟩, by first | omega | (dsimp only; omega)⟩
  ·
   try simp only [nm] at hc1
   have hdn2 := Dn.succ hdn1 (by rw [hxi]; exact hrl) (by omega) hda
   refine wp_exit ?_
   refine e_then (e_then (e_blk (?_)))
   refine n_blk ?_
   refine n_then ?_
   refine rg ?_
   refine st (mvI rfl) ?_
   refine st (y_add rfl rfl (by omega)) ?_
   refine st (asI rfl) ?_
   refine rg_end ?_
   exact n_then ⟨(i + 1, _, _, _, _, _), _, rfl, same_lk rfl (same_hav rfl (same_lk rfl (same_h0))), ⟨rfl, rfl, trivial⟩, ⟨trivial, by omega, hvs1, hdn2, hI, hR, hQ.wide (by omega), hb4, hN, hLv, hE⟩, by have := vis_le hvs1; (try dsimp only); omega⟩
 ·
  try simp only [nm] at hc0
  have hcl2 := Dn.done hok htm hvs hdn (by omega)
  refine wp_exit ?_
  refine e_then (e_then (e_blk (?_)))
  refine end0 Try.results47 ?_
  exact ⟨evs, vis, Rd, rfl, hvs, hcl2, hI.it, hE⟩
end Go.Proofs.Ytdgkaahghlbocaa
