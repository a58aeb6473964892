/-
  Walks of the functions, printed by a program out of the code and the loops' relations.
-/
import Derived.Test.YtdgkaahghlbocaaWkV
import Derived.Test.YtdgkaahghlbocaaProg
import Derived.KernelRfl
import Derived.Test.YtdgkaahghlbocaaS6
namespace Go.Proofs.Ytdgkaahghlbocaa
open Go.Wk Go.RowKit
set_option linter.unusedVariables false
set_option linter.unusedSimpArgs false
theorem cl62 : Callable Try.prog 62 := ⟨Try.call62⟩
theorem cl63 : Callable Try.prog 63 := ⟨Try.call63⟩
set_option maxRecDepth 100000 in
theorem info75 : ∃ i, Try.prog.info? 75 = some i ∧ i.zero = some (.agg #[.int .i64 0, .int .i64 0]) ∧ i.size = 2 ∧ i.bytes = 16 := ⟨Try.t75, Try.type75, rfl, rfl, rfl⟩
theorem zer87 : ZeroOf Try.prog 87 (.slice none 0 0) := Try.zeroValue87

set_option maxRecDepth 100000 in
theorem fund_lit_ok (N : Net) (bb bf bB bF : Nat) (By : List (Int × Int)) (Fr : List Int) (e : Int) (p : Int × Int) (f : Int) (w : World) (hbb : Blk w bb [.slice (some ⟨bB, 0, none⟩) N.evs.length N.evs.length]) (hbf : Blk w bf [.slice (some ⟨bF, 0, none⟩) N.evs.length N.evs.length]) (h1 : bB < bb) (h2 : bb < bF) (h3 : bF < bf) (hB : Ow 75 encArc 2 bB (bF + 1) w (some ⟨bB, 0, none⟩) N.evs.length By) (hF : Ow 3 Wk.encI 1 bB (bF + 1) w (some ⟨bF, 0, none⟩) N.evs.length Fr) (hbl : By.length = N.evs.length) (hfl : Fr.length = N.evs.length) (he : 0 ≤ e ∧ e < N.evs.length) : Cal Try.prog 63 [.int .i64 e, .agg (encArc p).toArray, .int .i64 f, .pointer (some ⟨bb, 0, none⟩), .pointer (some ⟨bf, 0, none⟩)] w (fun v w' => v = .tuple #[] ∧ Ow 75 encArc 2 bB (bF + 1) w' (some ⟨bB, 0, none⟩) N.evs.length (By.set e.toNat p) ∧ Ow 3 Wk.encI 1 bB (bF + 1) w' (some ⟨bF, 0, none⟩) N.evs.length (Fr.set e.toNat f) ∧ Blk w' bb [.slice (some ⟨bB, 0, none⟩) N.evs.length N.evs.length] ∧ Blk w' bf [.slice (some ⟨bF, 0, none⟩) N.evs.length N.evs.length] ∧ Out bB (bF + 1) w w') := by
 have hbbl := hbb.lt
 have hbfl := hbf.lt
 have hsh := (Ow.sl hB).shape
 have hE : Out bB (bF + 1) w w := Out.refl _ _ w
 refine enter Try.func63 rfl Try.ntmps63 rfl ?_
 refine wp_seq ?_
 refine rg ?_
 refine sd (d_boxA rfl ?_)
 intro b6 w1 hbb6 hs3 ho2 hb6
 have hz4 := ho2.size
 replace hbb := hbb.ext ho2
 replace hbf := hbf.ext ho2
 replace hB := hB.ext ho2
 replace hF := hF.ext ho2
 replace hE := hE.step ho2 (.inl (Nat.le_refl _))
 refine rg_end ?_
 refine n_then ?_
 refine rgD 8 (fun w_ => Out bB (bB + 1) w1 w_) (fun i => Nat.beq i 7) mixed (by kernel_rfl) ?_
 intro w5 ho6 hs7
 refine ⟨ho6.wide (.inl (Nat.le_refl _)), ?_⟩
 have hx8 := ho6.wide (a' := bB) (b' := (bB + 1)) (.inl (Nat.le_refl _))
 replace hB := hB.ext ho6
 refine tn rfl (fun _ hG => y_lb (hbb.out hG (by first | omega | (simp only [blk_some, hi1_some] at *; omega))) na87 rfl rfl) ?_
 refine tn rfl (fun _ hG => mvI rfl) ?_
 refine tn rfl (fun _ hG => y_lb (hbf.out hG (by first | omega | (simp only [blk_some, hi1_some] at *; omega))) na22 rfl rfl) ?_
 refine tn rfl (fun _ hG => mvI rfl) ?_
 refine tn rfl (fun _ hG => y_lbN (hb6.out hG (by first | omega | (simp only [blk_some, hi1_some] at *; omega))) agg75 rfl) ?_
 refine tn rfl (fun _ hG => mvI rfl) ?_
 refine tn rfl (fun _ hG => y_ix (hsh _) sl87 rfl (by simp; omega) rfl (by omega) (by simp; omega)) ?_
 refine td0 rfl (d_sw (e' := p) hB sz75 rfl rfl rfl (by omega) (by omega) ?_)
 intro w9 hs11 ho10 hB'
 have hrhB := hB.rng
 clear hB; have hB := hB'; clear hB'
 have hx12 : Out bB (bB + 1) w1 w9 := hx8.step ho10 (by first | omega | (simp only [blk_some, hi1_some] at *; omega))
 have hz13 := ho10.size
 refine ⟨hx12, ?_⟩
 refine t_end ?_
 have hz14 := hx12.size
 replace hbb := hbb.out hx12 (by first | omega | (simp only [blk_some, hi1_some] at *; omega))
 replace hbf := hbf.out hx12 (by first | omega | (simp only [blk_some, hi1_some] at *; omega))
 have hrnhF := hF.rng
 replace hF := hF.out hx12 (by first | omega | (simp only [blk_some, hi1_some] at *; omega))
 replace hE := hE.step hx12 (by first | omega | (simp only [blk_some, hi1_some] at *; omega))
 replace hb6 := hb6.out hx12 (by first | omega | (simp only [blk_some, hi1_some] at *; omega))
 refine st (y_ix hF.sl sl22 rfl (hfl.symm) rfl (by omega) (by omega)) ?_
 refine sd0 (d_se (j := 0) (e' := f) hF sz3 rfl rfl rfl (by omega) (by omega) (Nat.le_of_ble_eq_true rfl) rfl ?_)
 intro w15 hs17 ho16 hF'
 have hrhF := hF.rng
 clear hF; have hF := hF'; clear hF'
 have hz18 := ho16.size
 replace hbb := hbb.out ho16 (by first | omega | (simp only [blk_some, hi1_some] at *; omega))
 replace hbf := hbf.out ho16 (by first | omega | (simp only [blk_some, hi1_some] at *; omega))
 have hrnhB := hB.rng
 replace hB := hB.out ho16 (by first | omega | (simp only [blk_some, hi1_some] at *; omega))
 replace hE := hE.step ho16 (by first | omega | (simp only [blk_some, hi1_some] at *; omega))
 replace hb6 := hb6.out ho16 (by first | omega | (simp only [blk_some, hi1_some] at *; omega))
 refine rg_end ?_
 refine end0 Try.results63 ?_
 exact ⟨rfl, hB, hF, hbb, hbf, hE⟩

structure FunV (N : Net) (vis : List Vt) (By : List (Int × Int)) (Fr : List Int) : Prop where
  bl : By.length = N.evs.length
  fl : Fr.length = N.evs.length
  at_ : ∀ v ∈ vis, el By v.1 = v.2.1 ∧ el Fr v.1 = v.2.2
theorem FunV.add {N : Net} {tree : List Int} {first : Int} {evs : List Int} {By : List (Int × Int)} {Fr : List Int} {vis : List Vt} {e f : Int} {p : Int × Int} {Rd : List Bool} (h : FunV N vis By Fr) (hv : Vis N tree first evs (vis ++ [(e, p, f)]) Rd) : FunV N (vis ++ [(e, p, f)]) (By.set e.toNat p) (Fr.set e.toNat f) := by
  obtain ⟨a1, a2, a3, a4, ⟨e0, e1⟩, _, _, hne⟩ := vis_last hv
  have hb := h.bl
  have hf := h.fl
  refine ⟨by simp [hb], by simp [hf], fun v hv' => ?_⟩
  rcases List.mem_append.1 hv' with q | q
  · obtain ⟨k, hk, rfl⟩ := List.getElem_of_mem q
    have r := hv.rng vis[k].1 (by rw [hv.ev]; exact List.mem_cons_of_mem _ (List.mem_map.2 ⟨vis[k], List.mem_append.2 (.inl q), rfl⟩))
    rw [elSetN e0 r.1 (fun z => (hne _ q).1 z.symm), elSetN e0 r.1 (fun z => (hne _ q).1 z.symm)]; exact h.at_ _ q
  · rw [List.mem_singleton.1 q]
    show el (By.set e.toNat p) e = p ∧ el (Fr.set e.toNat f) e = f
    rw [elSetS e0 (by omega), elSetS e0 (by omega)]; exact ⟨rfl, rfl⟩
structure FunI (N : Net) (bb bf bB bF : Nat) (vis : List Vt) (w : World) : Prop where
  hb : Blk w bb [.slice (some ⟨bB, 0, none⟩) N.evs.length N.evs.length]
  hf : Blk w bf [.slice (some ⟨bF, 0, none⟩) N.evs.length N.evs.length]
  ex : ∃ By Fr, Ow 75 encArc 2 bB (bF + 1) w (some ⟨bB, 0, none⟩) N.evs.length By ∧ Ow 3 Wk.encI 1 bB (bF + 1) w (some ⟨bF, 0, none⟩) N.evs.length Fr ∧ FunV N vis By Fr
theorem FunI.keep {N : Net} {bb bf bB bF z : Nat} (s1 : bb < z) (s2 : bf < z) (s3 : bB < z) (s4 : bF < z) : ∀ (v : List Vt) (w1 w2 : World) (a b : Nat), FunI N bb bf bB bF v w1 → Out a b w1 w2 → (z ≤ a ∨ b ≤ a) → FunI N bb bf bB bF v w2 := by
  intro v w1 w2 a b h ho hs
  obtain ⟨By, Fr, h1, h2, h3⟩ := h.ex
  rcases Nat.lt_or_ge a b with q | q
  · exact ⟨h.hb.out ho (by omega), h.hf.out ho (by omega), By, Fr, h1.out ho (by simp only [blk_some]; omega), h2.out ho (by simp only [blk_some]; omega), h3⟩
  · have he : Ext w1 w2 := ho.wide (.inl q)
    exact ⟨h.hb.ext he, h.hf.ext he, By, Fr, h1.ext he, h2.ext he, h3⟩
theorem FunI.call {N : Net} {tree : List Int} {first : Int} {bb bf bB bF : Nat} (h1 : bB < bb) (h2 : bb < bF) (h3 : bF < bf) {wz : Nat} :
    ∀ (vis : List Vt) (evs : List Int) (Rd : List Bool) (e : Int) (p : Int × Int) (f : Int) (w1 : World), Vis N tree first evs (vis ++ [(e, p, f)]) Rd → FunI N bb bf bB bF vis w1 → wz ≤ w1.heap.size → Cal Try.prog 63 ([.int .i64 e, .agg (encArc p).toArray, .int .i64 f] ++ [.pointer (some ⟨bb, 0, none⟩), .pointer (some ⟨bf, 0, none⟩)]) w1 (fun v w2 => v = .tuple #[] ∧ FunI N bb bf bB bF (vis ++ [(e, p, f)]) w2 ∧ Out bB (bF + 1) w1 w2) := by
  intro vis evs Rd e p f w1 hv h _
  obtain ⟨By, Fr, k1, k2, k3⟩ := h.ex
  obtain ⟨_, _, _, _, ae, _⟩ := vis_last hv
  refine (fund_lit_ok N bb bf bB bF By Fr e p f w1 h.hb h.hf h1 h2 h3 k1 k2 k3.bl k3.fl ae).mono ?_
  rintro v w2 ⟨rfl, q1, q2, q3, q4, q5⟩
  exact ⟨rfl, ⟨q3, q4, _, _, q1, q2, k3.add hv⟩, q5⟩
/-- Along the way back to the first event. -/
structure Bk (N : Net) (tree evs : List Int) (vis : List Vt) (y : Int) (p : Nat) (wl : List (Int × Int)) : Prop where
  lt : p < evs.length
  wa : Wa N tree y wl (el evs (p : Int))
  nd : (wl.map Prod.fst).Nodup
  fro : ∀ q ∈ wl, ∃ k : Nat, p ≤ k ∧ k < vis.length ∧ q.1 = (el vis (k : Int)).2.1.1
theorem Bk.step {N : Net} {tree : List Int} {first : Int} {evs : List Int} {vis : List Vt} {Rd : List Bool} {y : Int} {k : Nat} {wl : List (Int × Int)} (hv : Vis N tree first evs vis Rd) (h : Bk N tree evs vis y (k + 1) wl) :
    ∃ p : Nat, p < k + 1 ∧ el evs (p : Int) = (el vis (k : Int)).2.2 ∧ Bk N tree evs vis y p (wl ++ [((el vis (k : Int)).2.1.1, -(el vis (k : Int)).2.1.2)]) := by
  have hl := hv.len
  have hlt := h.lt
  obtain ⟨a1, a2, a3, a4, p, a5, a6⟩ := hv.vi k (by omega)
  have hs := hv.atS (k := k) (by omega)
  refine ⟨p, by omega, a6, by omega, ?_, ?_, fun q hq => ?_⟩
  · have hwa := h.wa
    rw [hs, ← a4] at hwa
    have e1 : cySt N (el vis (k : Int)).2.1.1 (-(el vis (k : Int)).2.1.2) = cyEn N (el vis (k : Int)).2.1.1 (el vis (k : Int)).2.1.2 := by
      unfold cySt cyEn; rcases a2 with s | s <;> rw [s] <;> simp
    have e2 : cyEn N (el vis (k : Int)).2.1.1 (-(el vis (k : Int)).2.1.2) = cySt N (el vis (k : Int)).2.1.1 (el vis (k : Int)).2.1.2 := by
      unfold cySt cyEn; rcases a2 with s | s <;> rw [s] <;> simp
    have := hwa.snoc (p := ((el vis (k : Int)).2.1.1, -(el vis (k : Int)).2.1.2)) a1 (by dsimp only; rcases a2 with s | s <;> rw [s] <;> simp) e1
    dsimp only at this
    rw [e2, a3, ← a6] at this
    exact this
  · rw [List.map_append, List.nodup_append]
    refine ⟨h.nd, by simp, fun a ha b hb => ?_⟩
    obtain ⟨q, hq, rfl⟩ := List.mem_map.1 ha
    simp at hb
    subst hb
    obtain ⟨j, j0, j1, j2⟩ := h.fro q hq
    rw [j2]
    intro z
    exact hv.arcs (i := k) (j := j) (by omega) j1 z.symm
  · rcases List.mem_append.1 hq with q1 | q1
    · obtain ⟨j, j0, j1, j2⟩ := h.fro q q1
      exact ⟨j, by omega, j1, j2⟩
    · rw [List.mem_singleton.1 q1]
      exact ⟨k, by omega, by omega, rfl⟩
theorem Bk.len {N : Net} {tree evs : List Int} {vis : List Vt} {y : Int} {p : Nat} {wl : List (Int × Int)} (htm : ∀ a ∈ tree, 0 ≤ a ∧ a < N.acts.length) (h : Bk N tree evs vis y p wl) : wl.length ≤ N.acts.length := by
  have := inj_len (n := N.acts.length) wl.length (fun q => (el wl (q : Int)).1) (fun q hq => htm _ (h.wa.mem _ (el_mem (by omega) (by omega))).1) (fun i j hi hj he => by
    have hnd := h.nd
    rw [List.nodup_iff_pairwise_ne, List.pairwise_map, List.pairwise_iff_getElem] at hnd
    exact hnd i j (by omega) hj hi (by simpa [el, hj, show i < wl.length by omega] using he))
  exact this

theorem app_at {α : Type} {enc : α → List Value} {E : TypeId} {sz lo hi : Nat} {w : World} {ad : Option Addr} {c x z : Nat} {l : List α} {e : α} (h : Ow E enc sz lo hi w ad c (l ++ [e])) (hat : (blk ad = blk (some ⟨x, 0, none⟩) ∧ hi1 ad = hi1 (some ⟨x, 0, none⟩)) ∨ (blk ad = z ∧ hi1 ad = z + 1)) : ∃ y, ad = some ⟨y, 0, none⟩ ∧ (y = x ∨ y = z) ∧ y < w.heap.size := by
  rcases h.form with ⟨_, h0, _⟩ | ⟨g, e1, _, h2, _⟩
  · simp at h0
  · subst e1
    simp only [blk_some, hi1_some] at hat
    exact ⟨g, rfl, by omega, h2⟩
theorem fo_mono {N : Net} {tree : List Int} (h : FoA N tree tree.length) : ∀ i j : Int, 0 ≤ i → i < j → j < tree.length → el tree i < el tree j := by
  intro i j h0 hij hj
  obtain ⟨a, rfl⟩ := Int.eq_ofNat_of_zero_le h0
  obtain ⟨b, rfl⟩ := Int.eq_ofNat_of_zero_le (show 0 ≤ j by omega)
  induction b with
  | zero => omega
  | succ b ih =>
    have := h.asc b (by omega)
    by_cases e : a = b
    · subst e; exact this
    · exact Int.lt_trans (ih (by omega) (by omega)) this
theorem wa_cut {N : Net} {S : List Int} {l : List (Int × Int)} {x y : Int} (h : Wa N S x l y) : ∀ k : Nat, k ≤ l.length → ∃ v, Wa N S x (l.take k) v ∧ Wa N S v (l.drop k) y ∧ (k < l.length → cySt N (el l (k : Int)).1 (el l (k : Int)).2 = v) ∧ (0 < k → cyEn N (el l ((k : Int) - 1)).1 (el l ((k : Int) - 1)).2 = v) := by
  intro k
  induction k with
  | zero =>
    intro _
    refine ⟨x, rfl, h, fun hk => ?_, fun h => absurd h (by decide)⟩
    cases l with
    | nil => simp at hk
    | cons p r => exact h.2.2.1
  | succ k ih =>
    intro hk
    obtain ⟨v, a1, a2, a3, _⟩ := ih (by omega)
    have hd : l.drop k = el l (k : Int) :: l.drop (k + 1) := by rw [List.drop_eq_getElem_cons (by omega)]; simp [el, show k < l.length by omega]
    rw [hd] at a2
    obtain ⟨b1, b2, b3, b4⟩ := a2
    refine ⟨cyEn N (el l (k : Int)).1 (el l (k : Int)).2, ?_, b4, fun hk2 => ?_, fun _ => by rw [show ((k + 1 : Nat) : Int) - 1 = (k : Int) by omega]⟩
    · rw [tkS (l := l) (k := k) (by omega)]; exact a1.snoc b1 b2 b3
    · have hd2 : l.drop (k + 1) = el l ((k + 1 : Nat) : Int) :: l.drop (k + 1 + 1) := by rw [List.drop_eq_getElem_cons (by omega)]; simp [el, show k + 1 < l.length by omega]
      rw [hd2] at b4
      exact b4.2.2.1
/-- The cycle of an activity outside of the forest is one. -/
theorem cyw_ok {N : Net} {tree : List Int} (hN : NetOk N) (hf : FoA N tree tree.length) (htm : ∀ a ∈ tree, 0 ≤ a ∧ a < N.acts.length) {i : Int} (i0 : 0 ≤ i) (i1 : i < N.acts.length) (hni : ¬ i ∈ tree) {arcs signs : List Int} (h : CyW N tree i (arcs, signs)) : CyOk N arcs signs := by
  obtain ⟨l, h1, h2, h3⟩ := h
  obtain ⟨rfl, rfl⟩ := Prod.mk.inj h3
  have ok := hN.acs _ (el_mem i0 i1)
  have cut := wa_cut h1
  have eA : ∀ k : Nat, el (i :: l.map Prod.fst) ((k + 1 : Nat) : Int) = (el l (k : Int)).1 ∨ l.length ≤ k := fun k => by
    by_cases c : k < l.length
    · left; rw [el_consS]; simp [el, c]
    · right; omega
  have eS : ∀ k : Nat, k < l.length → el (1 :: l.map Prod.snd) ((k + 1 : Nat) : Int) = (el l (k : Int)).2 := fun k c => by rw [el_consS]; simp [el, c]
  have eA' : ∀ k : Nat, k < l.length → el (i :: l.map Prod.fst) ((k + 1 : Nat) : Int) = (el l (k : Int)).1 := fun k c => (eA k).resolve_right (by omega)
  have sub : ∀ q r : Nat, q < r → r ≤ l.length → ∀ v, Wa N tree v (l.drop q) (el N.acts i).fr → Wa N tree v (l.drop q) (el N.acts i).fr → True := fun _ _ _ _ _ _ _ => trivial
  have diff : ∀ q r : Nat, q < r → r ≤ l.length → ∀ u v, Wa N tree (el N.acts i).tt (l.take q) u → Wa N tree u (l.drop q) (el N.acts i).fr → Wa N tree (el N.acts i).tt (l.take r) v → Wa N tree v (l.drop r) (el N.acts i).fr → (∃ w, w ≠ [] ∧ Wa N tree u w v ∧ (w.map Prod.fst).Nodup) := by
    intro q r hq hr u v _ a2 _ b2
    obtain ⟨z, c1, c2, _, _⟩ := wa_cut a2 (r - q) (by rw [List.length_drop]; omega)
    rw [List.drop_drop, show q + (r - q) = r by omega] at c2
    have hnd : ((l.drop q).map Prod.fst).Nodup := (List.Sublist.map _ (List.drop_sublist q l)).nodup h2
    have hnr : ((l.drop r).map Prod.fst).Nodup := (List.Sublist.map _ (List.drop_sublist r l)).nodup h2
    have hnt : (((l.drop q).take (r - q)).map Prod.fst).Nodup := (List.Sublist.map _ (List.take_sublist _ _)).nodup hnd
    refine ⟨(l.drop q).take (r - q), fun e => ?_, ?_, hnt⟩
    · have := congrArg List.length e
      rw [List.length_take, List.length_drop] at this; simp at this; omega
    · have : z = v := by
        by_cases c : r < l.length
        · have hd : l.drop r = el l (r : Int) :: l.drop (r + 1) := by rw [List.drop_eq_getElem_cons c]; simp [el, c]
          rw [hd] at c2 b2
          exact c2.2.2.1.symm.trans b2.2.2.1
        · have hd : l.drop r = [] := List.drop_eq_nil_of_le (by omega)
          rw [hd] at c2 b2
          exact c2.trans b2.symm
      rw [← this]; exact c1
  have hne : ∀ q r : Nat, q < r → r ≤ l.length → ∀ u v, Wa N tree (el N.acts i).tt (l.take q) u → Wa N tree u (l.drop q) (el N.acts i).fr → Wa N tree (el N.acts i).tt (l.take r) v → Wa N tree v (l.drop r) (el N.acts i).fr → u ≠ v := by
    intro q r hq hr u v a1 a2 b1 b2 e
    obtain ⟨w, w1, w2, w3⟩ := diff q r hq hr u v a1 a2 b1 b2
    subst e
    have hnil : Wa N tree u [] u := rfl
    exact w1 (Wa.one hf w2 hnil w3 List.nodup_nil)
  have hl0 : 0 < l.length := by
    cases l with
    | nil => exact absurd (show (el N.acts i).tt = (el N.acts i).fr from h1) (fun e => ok.ne e.symm)
    | cons p r => simp
  have st0 : stK N (i :: l.map Prod.fst) (1 :: l.map Prod.snd) 0 = (el N.acts i).fr := rfl
  have en0 : enK N (i :: l.map Prod.fst) (1 :: l.map Prod.snd) 0 = (el N.acts i).tt := rfl
  have stS : ∀ k : Nat, k < l.length → stK N (i :: l.map Prod.fst) (1 :: l.map Prod.snd) (k + 1) = cySt N (el l (k : Int)).1 (el l (k : Int)).2 := fun k c => by unfold stK; rw [eA' k c, eS k c]
  have enS : ∀ k : Nat, k < l.length → enK N (i :: l.map Prod.fst) (1 :: l.map Prod.snd) (k + 1) = cyEn N (el l (k : Int)).1 (el l (k : Int)).2 := fun k c => by unfold enK; rw [eA' k c, eS k c]
  have hm : ∀ k : Nat, k < l.length → (el l (k : Int)).1 ∈ tree ∧ ((el l (k : Int)).2 = 1 ∨ (el l (k : Int)).2 = -1) := fun k c => h1.mem _ (el_mem (by omega) (by omega))
  refine ⟨hN, by simp, by simp; omega, ⟨fun q hq => ?_, fun p q hpq hq => ?_⟩, ⟨fun _ => ?_, fun q hq => ?_, fun p q hpq hq => ?_⟩⟩
  · cases q with
    | zero => exact ⟨i0, i1, .inl rfl⟩
    | succ q =>
      simp at hq
      rw [eA' q hq, eS q hq]
      exact ⟨(htm _ (hm q hq).1).1, (htm _ (hm q hq).1).2, (hm q hq).2⟩
  · cases q with
    | zero => omega
    | succ q =>
      simp at hq
      rw [eA' q hq]
      cases p with
      | zero => intro e; exact hni (by rw [show i = (el l (q : Int)).1 from e]; exact (hm q hq).1)
      | succ p =>
        rw [eA' p (by omega)]
        rw [List.nodup_iff_pairwise_ne, List.pairwise_map, List.pairwise_iff_getElem] at h2
        have := h2 p q (by omega) hq (by omega)
        simpa [el, hq, show p < l.length by omega] using this
  · obtain ⟨m, hm'⟩ : ∃ m, l.length = m + 1 := ⟨l.length - 1, by omega⟩
    rw [List.length_cons, List.length_map, hm', show m + 1 + 1 - 1 = m + 1 by omega, st0, enS m (by omega)]
    obtain ⟨v, a1, a2, _, a4⟩ := cut (m + 1) (by omega)
    have := a4 (by omega)
    rw [show ((m + 1 : Nat) : Int) - 1 = (m : Int) by omega] at this
    rw [this]
    rw [List.drop_eq_nil_of_le (by omega)] at a2
    exact (show v = _ from a2).symm
  · simp at hq
    rw [stS q (by omega)]
    obtain ⟨v, a1, a2, a3, a4⟩ := cut q (by omega)
    rw [a3 (by omega)]
    cases q with
    | zero => rw [en0]; exact (show (el N.acts i).tt = v from a1).symm
    | succ q =>
      rw [enS q (by omega)]
      have := a4 (by omega)
      rw [show ((q + 1 : Nat) : Int) - 1 = (q : Int) by omega] at this
      exact this.symm
  · cases q with
    | zero => omega
    | succ q =>
      simp at hq
      rw [stS q hq]
      obtain ⟨v, b1, b2, b3, _⟩ := cut q (by omega)
      rw [b3 hq]
      cases p with
      | zero =>
        rw [st0]
        obtain ⟨z, c1, c2, _, _⟩ := cut l.length (Nat.le_refl _)
        have hz : z = (el N.acts i).fr := by rw [List.drop_length] at c2; exact c2
        have := hne q l.length hq (Nat.le_refl _) v z b1 b2 c1 c2
        rw [hz] at this
        exact fun e => this e.symm
      | succ p =>
        rw [stS p (by omega)]
        obtain ⟨u, c1, c2, c3, _⟩ := cut p (by omega)
        rw [c3 (by omega)]
        exact hne p q (by omega) (by omega) u v c1 c2 b1 b2

set_option maxHeartbeats 8000000 in
set_option maxRecDepth 100000 in
theorem cycles_Fundamental_ok (N : Net) (A : NetA) (lo hi : Nat) (tree : List Int) (at_ : Option Addr) (ct lt ht : Nat) (w : World) (hN : NetIn lo hi w N A) (hT : Ints lt ht w at_ tree) (htn : (tree.length : Int) ≤ 9223372036854775807)  : Cal Try.prog 30 [netV N A, .slice at_ tree.length ct] w (fun v w' => ∃ ad c l e, v = .tuple #[.slice ad l.length c, .int .i64 e] ∧ CyIn w.heap.size w'.heap.size w' ad l ∧ (∀ r ∈ l, CyOk N r.arcs r.signs ∧ r.arcs.length ≤ r.c) ∧ ((l.length : Nat) : Int) ≤ 512 ∧ (¬ FoOk N tree → l = [] ∧ e = 1) ∧ (FoOk N tree → e = 0 ∧ FunR N tree N.acts.length (l.map prC)) ∧ Ext w w') := by
 replace hN := hN.full
 replace hT := Ints.full hT
 have hE : Out 0 0 w w := Out.refl _ _ w
 refine enter Try.func30 rfl Try.ntmps30 rfl ?_
 refine wp_seq ?_
 refine rg ?_
 refine sd (d_boxA rfl ?_)
 intro b2 w1 hbb2 hs3 ho2 hb2
 have hz4 := ho2.size
 replace hN := hN.ext ho2
 replace hT := hT.ext ho2
 replace hE := hE.step ho2 (.inl (Nat.le_refl _))
 refine st (asS rfl) ?_
 refine st (asI rfl) ?_
 refine rg_end ?_
 refine n_then ?_
 refine wp_seq ?_
 refine wp_seq ?_
 refine rg ?_
 refine st (y_lbN hb2 agg26 rfl) ?_
 refine st (mvS rfl) ?_
 refine sc cl44 (cycles_Forest_ok N A _ _ tree _ _ _ _ _ hN hT htn) rfl ?_
 rintro v9 w5 ⟨b, rfl, hb, ho6⟩
 have hz10 := ho6.size
 replace hN := hN.ext ho6
 replace hT := hT.ext ho6
 replace hE := hE.step ho6 (.inl (Nat.le_refl _))
 replace hb2 := hb2.ext ho6
 refine st (y_not rfl) ?_
 refine rg_end ?_
 refine n_then ?_
 refine cnd rfl (fun hc0 => ?_) (fun hc0 => ?_)
 ·
  try simp only [nm] at hc0
  have hno : ¬ FoOk N tree := fun h => by rw [hb.2 h] at hc0; cases hc0
  refine wp_seq ?_
  refine rg ?_
  refine st (asS rfl) ?_
  refine st (asI rfl) ?_
  refine rg_end ?_
  refine n_then ?_
  refine wp_ret ?_
  refine r_then (ret2 (v := (.slice _ _ _)) (v' := (.int .i64 _)) Try.results30 rfl rfl ?_)
  exact ⟨none, 0, [], 1, rfl, ⟨nilS0, fun r hr => by cases hr⟩, (fun r hr => by cases hr), by simp, fun _ => ⟨rfl, rfl⟩, fun h => absurd h hno, hE⟩
 ·
  try simp only [nm] at hc0
  have hfo := hb.1 hc0
  have hok := hfo.ok
  have hev := hok.ev
  have hac := hok.ac
  have htm := hfo.mem
  have hasc := fo_mono hfo.a
  have htl : tree.length ≤ 512 := by
    have := inj_len (n := N.acts.length) tree.length (fun q => el tree (q : Int)) (fun q hq => htm _ (el_mem (by omega) (by omega))) (fun i j hi hj he => by
      have := hasc i j (by omega) (by omega) (by omega)
      omega)
    omega
  refine wp_skip ?_
  refine n_then ?_
  refine wp_seq ?_
  refine rg ?_
  refine st (y_lbN hb2 agg26 rfl) ?_
  refine st (mvS rfl) ?_
  refine sc cl46 (cycles_leaving_ok N A _ _ tree _ _ _ _ _ hN hT htn hok htm htl) rfl ?_
  rintro v15 w11 ⟨ar_, cr_, rows_, rfl, hLv, hlv, ho12⟩
  have hz16 := ho12.size
  replace hN := hN.ext ho12
  replace hT := hT.ext ho12
  replace hE := hE.step ho12 (.inl (Nat.le_refl _))
  replace hb2 := hb2.ext ho12
  refine st (asS rfl) ?_
  refine rg_end ?_
  refine n_then ?_
  refine wp_seq ?_
  refine rg ?_
  refine st (asS rfl) ?_
  refine rg_end ?_
  refine n_then ?_
  refine wp_seq ?_
  refine wp_seq ?_
  refine rg ?_
  refine st (y_fld fld26_2 rfl) ?_
  refine st (y_lb hb2 na24 rfl rfl) ?_
  refine st (y_len Try.underlying24 rfl) ?_
  refine st (mvI rfl) ?_
  refine rg_end ?_
  refine n_then ?_
  refine wp_block ?_
  obtain ⟨z1, hz1⟩ : ∃ z, z = w11.heap.size := ⟨_, rfl⟩
  refine lp (γ := Nat × List Cyc × Option Addr × Nat) [7, 8, 9, 10, 11, 12, 13, 14, 15, 26, 27, 28, 29, 30, 31, 32, 33, 34, 35, 36, 37, 38, 39, 40, 41, 42, 43, 44, 45, 46, 47, 48, 49, 50, 51, 52, 53, 54, 55, 56, 57, 58, 59, 60, 61, 62, 63, 64, 65, 66, 67, 68, 69, 70, 71, 72, 73, 74, 75, 76, 77, 78, 79, 80, 81, 82, 83, 84, 85, 86, 87, 88, 89, 90, 91] (fun ⟨k, l, ao, co⟩ => [(26, .int .i64 (k : Int)), (7, .slice ao l.length co)]) (fun ⟨k, l, ao, co⟩ w_ => Ext w11 w_ ∧ (k : Int) ≤ N.acts.length ∧ ((l.length : Nat) : Int) ≤ k ∧ FunR N tree k (l.map prC) ∧ (∀ r ∈ l, CyOk N r.arcs r.signs ∧ r.arcs.length ≤ r.c) ∧ Ow 37 encCy 2 z1 w_.heap.size w_ ao co l ∧ CRows z1 w_.heap.size w_ ao l) (fun ⟨k, l, ao, co⟩ => N.acts.length - k) (0, [], none, 0) ⟨rfl, rfl, trivial⟩ ⟨Out.refl _ _ _, by simp, by simp, FunR.zero, (fun r hr => by cases hr), Ow.nil (fun _ => rfl), ⟨fun r hr => by cases hr⟩⟩ ?_
  rintro ⟨k, l, ao, co⟩ hav_ w17 ⟨ho18, hk, hlk, hfr, hall, hO, hCR⟩
  have hlp0 := ho18
  have hz19 := ho18.size
  replace hN := hN.ext ho18
  replace hT := hT.ext ho18
  replace hE := hE.step ho18 (.inl (Nat.le_refl _))
  replace hb2 := hb2.ext ho18
  replace hLv := hLv.ext ho18
  have hOr0 := hO.rng
  refine wp_seq ?_
  refine rg ?_
  refine st (y_lss rfl rfl) ?_
  refine rg_end ?_
  refine n_then ?_
  refine wp_seq ?_
  refine cnd rfl (fun hc1 => ?_) (fun hc1 => ?_)
  ·
   try simp only [nm] at hc1
   have ha := hok.acs _ (el_mem (l := N.acts) (i := (k : Int)) (by omega) hc1)
   have hcon : conB (tree.map (el N.acts)) (el N.acts (k : Int)).fr (el N.acts (k : Int)).tt = true := hfo.span k (by omega)
   refine wp_skip ?_
   refine n_then ?_
   refine wp_seq ?_
   refine wp_block ?_
   refine wp_seq ?_
   refine rg ?_
   refine st (mvI rfl) ?_
   refine st (y_ix hN.a sl24 rfl (rfl) rfl (by omega) (by omega)) ?_
   refine st (y_lw hN.a agg43 rfl (by omega) (by omega)) ?_
   refine sd (d_allocA zer43 ?_)
   intro ba w20 hbba hs22 ho21 hba
   have hz23 := ho21.size
   replace hN := hN.ext ho21
   replace hT := hT.ext ho21
   replace hE := hE.step ho21 (.inl (Nat.le_refl _))
   replace hb2 := hb2.ext ho21
   replace hLv := hLv.ext ho21
   replace hO := hO.ext ho21
   replace hCR := hCR.ext ho21
   replace hlp0 := hlp0.step ho21 (.inl (Nat.le_refl _))
   refine st (asI rfl) ?_
   refine sd0 (d_stN hba rfl rfl sz43 rfl rfl ?_)
   intro w24 hs26 ho25 hba'
   clear hba; have hba := hba'; clear hba'
   have hz27 := ho25.size
   replace hN := hN.out ho25 (by (try simp only [blk_some, hi1_some]); omega)
   replace hT := hT.out ho25 (by (try simp only [blk_some, hi1_some]); omega)
   replace hE := hE.step ho25 (by (try simp only [blk_some, hi1_some]); omega)
   replace hb2 := hb2.out ho25 (by (try simp only [blk_some, hi1_some]); omega)
   replace hLv := hLv.out ho25 (by (try simp only [blk_some, hi1_some]); omega)
   replace hO := hO.out ho25 (by (try simp only [blk_some, hi1_some]); omega)
   replace hCR := hCR.out ho25 (by (try simp only [blk_some, hi1_some]); omega)
   replace hlp0 := hlp0.step ho25 (by (try simp only [blk_some, hi1_some]); omega)
   refine rg_end ?_
   refine n_then ?_
   refine wp_seq ?_
   refine wp_seq ?_
   refine rg ?_
   refine st (mvS rfl) ?_
   refine st (mvI rfl) ?_
   refine sc cl62 (bsearch_ok tree _ _ _ _ (k : Int) _ hT (by omega) hasc) rfl ?_
   rintro v32 w28 ⟨pz, bz, rfl, hbz, ho29⟩
   have hz33 := ho29.size
   replace hN := hN.ext ho29
   replace hT := hT.ext ho29
   replace hE := hE.step ho29 (.inl (Nat.le_refl _))
   replace hb2 := hb2.ext ho29
   replace hLv := hLv.ext ho29
   replace hO := hO.ext ho29
   replace hCR := hCR.ext ho29
   replace hlp0 := hlp0.step ho29 (.inl (Nat.le_refl _))
   replace hba := hba.ext ho29
   refine st (mvT rfl) ?_
   refine st (y_ext rfl rfl) ?_
   refine st (y_ext rfl rfl) ?_
   refine st (asI rfl) ?_
   refine st (asB rfl) ?_
   refine rg_end ?_
   refine n_then ?_
   refine wp_seq ?_
   refine rg ?_
   refine st (mvB rfl) ?_
   refine rg_end ?_
   refine n_then ?_
   refine cnd rfl (fun hc2 => ?_) (fun hc2 => ?_)
   ·
    try simp only [nm] at hc2
    have hfr1 := hfr.pass (hbz.1 (by assumption))
    have hall1 := hall
    have hCR1 := hCR
    refine wp_exit ?_
    refine e_then (e_blk (?_))
    refine n_then ?_
    refine rg ?_
    refine st (y_add rfl rfl (by omega)) ?_
    refine st (mvI rfl) ?_
    refine rg_end ?_
    exact n_then ⟨(k + 1, _, _, _), _, rfl, same_lk rfl (same_h0), ⟨rfl, rfl, trivial⟩, ⟨hlp0, by omega, by first | omega | (simp; omega), by simpa [prC] using hfr1, hall1, hO.wide (by omega), hCR1.wide (by omega)⟩, by first | omega | (dsimp only; omega)⟩
   ·
    try simp only [nm] at hc2
    have hnt : ¬ (k : Int) ∈ tree := fun h => by have := hbz.2 h; simp_all
    refine wp_skip ?_
    refine n_then ?_
    refine wp_seq ?_
    refine rg ?_
    refine st (y_fld fld26_1 rfl) ?_
    refine st (y_lb hb2 na23 rfl rfl) ?_
    refine st (y_len Try.underlying23 rfl) ?_
    refine sd (d_make (m := N.evs.length) (lo := w28.heap.size) (enc := encArc) (e0 := ((0, 0) : Int × Int)) sl87 info75 (fun _ => rfl) rfl rfl rfl (by omega) (by unfold maxLen; omega) (by omega) ?_)
    intro bB w34 hbbB hs36 ho35 hB
    have hz38 := ho35.size
    replace hN := hN.ext ho35
    replace hT := hT.ext ho35
    replace hE := hE.step ho35 (.inl (Nat.le_refl _))
    replace hb2 := hb2.ext ho35
    replace hLv := hLv.ext ho35
    replace hO := hO.ext ho35
    replace hCR := hCR.ext ho35
    replace hlp0 := hlp0.step ho35 (.inl (Nat.le_refl _))
    replace hba := hba.ext ho35
    refine sd (d_alloc1 rfl zer87 ?_)
    intro bb w39 hbbb hs41 ho40 hbb
    have hz42 := ho40.size
    replace hN := hN.ext ho40
    replace hT := hT.ext ho40
    replace hE := hE.step ho40 (.inl (Nat.le_refl _))
    replace hb2 := hb2.ext ho40
    replace hLv := hLv.ext ho40
    replace hO := hO.ext ho40
    replace hCR := hCR.ext ho40
    replace hlp0 := hlp0.step ho40 (.inl (Nat.le_refl _))
    replace hba := hba.ext ho40
    replace hB := hB.ext ho40
    refine sd0 (d_st hbb sz87 rfl rfl rfl (Nat.le_of_ble_eq_true rfl) ?_)
    intro w43 hs45 ho44 hbb'
    clear hbb; have hbb := hbb'; clear hbb'
    have hz46 := ho44.size
    replace hN := hN.out ho44 (by (try simp only [blk_some, hi1_some]); omega)
    replace hT := hT.out ho44 (by (try simp only [blk_some, hi1_some]); omega)
    replace hE := hE.step ho44 (by (try simp only [blk_some, hi1_some]); omega)
    replace hb2 := hb2.out ho44 (by (try simp only [blk_some, hi1_some]); omega)
    replace hLv := hLv.out ho44 (by (try simp only [blk_some, hi1_some]); omega)
    replace hO := hO.out ho44 (by (try simp only [blk_some, hi1_some]); omega)
    replace hCR := hCR.out ho44 (by (try simp only [blk_some, hi1_some]); omega)
    replace hlp0 := hlp0.step ho44 (by (try simp only [blk_some, hi1_some]); omega)
    replace hba := hba.out ho44 (by (try simp only [blk_some, hi1_some]); omega)
    replace hB := hB.out ho44 (by (try simp only [blk_some, hi1_some]); omega)
    refine rg_end ?_
    refine n_then ?_
    refine wp_seq ?_
    refine rg ?_
    refine st (y_fld fld26_1 rfl) ?_
    refine st (y_lb hb2 na23 rfl rfl) ?_
    refine st (y_len Try.underlying23 rfl) ?_
    refine sd (d_make (m := N.evs.length) (lo := w43.heap.size) (enc := Wk.encI) (e0 := (0 : Int)) sl22 info3 (fun _ => rfl) rfl rfl rfl (by omega) (by unfold maxLen; omega) (by omega) ?_)
    intro bF w47 hbbF hs49 ho48 hF
    have hz51 := ho48.size
    replace hN := hN.ext ho48
    replace hT := hT.ext ho48
    replace hE := hE.step ho48 (.inl (Nat.le_refl _))
    replace hb2 := hb2.ext ho48
    replace hLv := hLv.ext ho48
    replace hO := hO.ext ho48
    replace hCR := hCR.ext ho48
    replace hlp0 := hlp0.step ho48 (.inl (Nat.le_refl _))
    replace hba := hba.ext ho48
    replace hB := hB.ext ho48
    replace hbb := hbb.ext ho48
    refine sd (d_alloc1 rfl zer22 ?_)
    intro bf w52 hbbf hs54 ho53 hbf
    have hz55 := ho53.size
    replace hN := hN.ext ho53
    replace hT := hT.ext ho53
    replace hE := hE.step ho53 (.inl (Nat.le_refl _))
    replace hb2 := hb2.ext ho53
    replace hLv := hLv.ext ho53
    replace hO := hO.ext ho53
    replace hCR := hCR.ext ho53
    replace hlp0 := hlp0.step ho53 (.inl (Nat.le_refl _))
    replace hba := hba.ext ho53
    replace hB := hB.ext ho53
    replace hbb := hbb.ext ho53
    replace hF := hF.ext ho53
    have hB' := (hB.lower (lo' := bB) (by omega)).wide (hi' := bF + 1) (by omega)
    have hF' := (hF.lower (lo' := bB) (by omega)).wide (hi' := bF + 1) (by omega)
    clear hB hF
    have hB := hB'
    have hF := hF'
    clear hB' hF'
    refine sd0 (d_st hbf sz22 rfl rfl rfl (Nat.le_of_ble_eq_true rfl) ?_)
    intro w56 hs58 ho57 hbf'
    clear hbf; have hbf := hbf'; clear hbf'
    have hz59 := ho57.size
    replace hN := hN.out ho57 (by (try simp only [blk_some, hi1_some]); omega)
    replace hT := hT.out ho57 (by (try simp only [blk_some, hi1_some]); omega)
    replace hE := hE.step ho57 (by (try simp only [blk_some, hi1_some]); omega)
    replace hb2 := hb2.out ho57 (by (try simp only [blk_some, hi1_some]); omega)
    replace hLv := hLv.out ho57 (by (try simp only [blk_some, hi1_some]); omega)
    replace hO := hO.out ho57 (by (try simp only [blk_some, hi1_some]); omega)
    replace hCR := hCR.out ho57 (by (try simp only [blk_some, hi1_some]); omega)
    replace hlp0 := hlp0.step ho57 (by (try simp only [blk_some, hi1_some]); omega)
    replace hba := hba.out ho57 (by (try simp only [blk_some, hi1_some]); omega)
    replace hB := hB.out ho57 (by (try simp only [blk_some, hi1_some]); omega)
    replace hbb := hbb.out ho57 (by (try simp only [blk_some, hi1_some]); omega)
    replace hF := hF.out ho57 (by (try simp only [blk_some, hi1_some]); omega)
    refine rg_end ?_
    refine n_then ?_
    refine wp_seq ?_
    refine rg ?_
    refine st (y_lbN hb2 agg26 rfl) ?_
    refine st (mvS rfl) ?_
    refine st (y_fld fld43_1 rfl) ?_
    refine st (y_lb hba na3 rfl rfl) ?_
    refine st (y_mkf rfl) ?_
    refine sc cl47 (cycles_walk_ok N A _ _ rows_ _ _ _ _ tree (el N.acts (k : Int)).fr _ _ bB (bF + 1) (FunI N bb bf bB bF) _ hN hok htm htl hLv hlv ha.f0 ha.f1 (by omega) (by omega) (by omega) (by omega) cl63 (FunI.keep (by omega) (by omega) (by omega) (by omega) ) (FunI.call (by omega) (by omega) (by omega) ) ⟨hbb, hbf, _, _, hB, hF, ⟨by simp, by simp, fun v hv => (by cases hv)⟩⟩) rfl ?_
    rintro v64 w60 ⟨evs, vis, Rd, rfl, hvs, hcl, ⟨hbb', hbf', By, Fr, hB', hF', hfv⟩, ho61⟩
    clear hB hF hbb hbf
    have hB := hB'
    have hF := hF'
    have hbb := hbb'
    have hbf := hbf'
    clear hB' hF' hbb' hbf'
    have hbl := hfv.bl
    have hfl := hfv.fl
    have htin := (hvs.comp hcl (el N.acts (k : Int)).tt).2 hcon
    obtain ⟨p0, hp0, hpe⟩ := List.getElem_of_mem htin
    have hpe2 : el evs (p0 : Int) = (el N.acts (k : Int)).tt := by simp [el, hp0, hpe]
    have hvle := vis_le hvs
    have hz65 := ho61.size
    replace hN := hN.out ho61 (by (try simp only [blk_some, hi1_some]); omega)
    replace hT := hT.out ho61 (by (try simp only [blk_some, hi1_some]); omega)
    replace hE := hE.step ho61 (by (try simp only [blk_some, hi1_some]); omega)
    replace hb2 := hb2.out ho61 (by (try simp only [blk_some, hi1_some]); omega)
    replace hLv := hLv.out ho61 (by (try simp only [blk_some, hi1_some]); omega)
    replace hO := hO.out ho61 (by (try simp only [blk_some, hi1_some]); omega)
    replace hCR := hCR.out ho61 (by (try simp only [blk_some, hi1_some]); omega)
    replace hlp0 := hlp0.step ho61 (by (try simp only [blk_some, hi1_some]); omega)
    replace hba := hba.out ho61 (by (try simp only [blk_some, hi1_some]); omega)
    refine rg_end ?_
    refine n_then ?_
    refine wp_seq ?_
    refine rg ?_
    refine st (mvI rfl) ?_
    refine sd (d_bsO (lo := w60.heap.size) (enc := Wk.encI) (l := [(k : Int)]) (sz := 1) (fun _ => rfl) (bsl22_1 _ _) rfl rfl (by unfold maxLen; omega) (by omega) ?_)
    intro bA w66 hbbA hs68 ho67 hA
    have hz69 := ho67.size
    replace hN := hN.ext ho67
    replace hT := hT.ext ho67
    replace hE := hE.step ho67 (.inl (Nat.le_refl _))
    replace hb2 := hb2.ext ho67
    replace hLv := hLv.ext ho67
    replace hO := hO.ext ho67
    replace hCR := hCR.ext ho67
    replace hlp0 := hlp0.step ho67 (.inl (Nat.le_refl _))
    replace hba := hba.ext ho67
    replace hB := hB.ext ho67
    replace hbb := hbb.ext ho67
    replace hF := hF.ext ho67
    replace hbf := hbf.ext ho67
    refine sd (d_bsO (lo := w66.heap.size) (enc := Wk.encI) (l := [(1 : Int)]) (sz := 1) (fun _ => rfl) (bsl22_1 _ _) rfl rfl (by unfold maxLen; omega) (by omega) ?_)
    intro bG w70 hbbG hs72 ho71 hG
    have hz73 := ho71.size
    replace hN := hN.ext ho71
    replace hT := hT.ext ho71
    replace hE := hE.step ho71 (.inl (Nat.le_refl _))
    replace hb2 := hb2.ext ho71
    replace hLv := hLv.ext ho71
    replace hO := hO.ext ho71
    replace hCR := hCR.ext ho71
    replace hlp0 := hlp0.step ho71 (.inl (Nat.le_refl _))
    replace hba := hba.ext ho71
    replace hB := hB.ext ho71
    replace hbb := hbb.ext ho71
    replace hF := hF.ext ho71
    replace hbf := hbf.ext ho71
    replace hA := hA.ext ho71
    refine st (y_build (bld37_0_1 _ _ _ _ _ _ _) rfl) ?_
    refine sd (d_allocA zer37 ?_)
    intro bc w74 hbbc hs76 ho75 hbc
    have hz77 := ho75.size
    replace hN := hN.ext ho75
    replace hT := hT.ext ho75
    replace hE := hE.step ho75 (.inl (Nat.le_refl _))
    replace hb2 := hb2.ext ho75
    replace hLv := hLv.ext ho75
    replace hO := hO.ext ho75
    replace hCR := hCR.ext ho75
    replace hlp0 := hlp0.step ho75 (.inl (Nat.le_refl _))
    replace hba := hba.ext ho75
    replace hB := hB.ext ho75
    replace hbb := hbb.ext ho75
    replace hF := hF.ext ho75
    replace hbf := hbf.ext ho75
    replace hA := hA.ext ho75
    replace hG := hG.ext ho75
    refine sd0 (d_stN hbc rfl rfl sz37 rfl rfl ?_)
    intro w78 hs80 ho79 hbc'
    clear hbc; have hbc := hbc'; clear hbc'
    have hz81 := ho79.size
    replace hN := hN.out ho79 (by (try simp only [blk_some, hi1_some]); omega)
    replace hT := hT.out ho79 (by (try simp only [blk_some, hi1_some]); omega)
    replace hE := hE.step ho79 (by (try simp only [blk_some, hi1_some]); omega)
    replace hb2 := hb2.out ho79 (by (try simp only [blk_some, hi1_some]); omega)
    replace hLv := hLv.out ho79 (by (try simp only [blk_some, hi1_some]); omega)
    replace hO := hO.out ho79 (by (try simp only [blk_some, hi1_some]); omega)
    replace hCR := hCR.out ho79 (by (try simp only [blk_some, hi1_some]); omega)
    replace hlp0 := hlp0.step ho79 (by (try simp only [blk_some, hi1_some]); omega)
    replace hba := hba.out ho79 (by (try simp only [blk_some, hi1_some]); omega)
    replace hB := hB.out ho79 (by (try simp only [blk_some, hi1_some]); omega)
    replace hbb := hbb.out ho79 (by (try simp only [blk_some, hi1_some]); omega)
    replace hF := hF.out ho79 (by (try simp only [blk_some, hi1_some]); omega)
    replace hbf := hbf.out ho79 (by (try simp only [blk_some, hi1_some]); omega)
    replace hA := hA.out ho79 (by (try simp only [blk_some, hi1_some]); omega)
    replace hG := hG.out ho79 (by (try simp only [blk_some, hi1_some]); omega)
    refine rg_end ?_
    refine n_then ?_
    refine wp_seq ?_
    refine wp_seq ?_
    refine rg ?_
    refine st (y_fld fld43_2 rfl) ?_
    refine st (y_lb hba na3 rfl rfl) ?_
    refine st (asI rfl) ?_
    refine rg_end ?_
    refine n_then ?_
    refine wp_block ?_
    obtain ⟨z2, hz2⟩ : ∃ z, z = w78.heap.size := ⟨_, rfl⟩
    refine lp (γ := Int × Nat × List Int × List Int × List (Int × Int) × Nat × Nat × Nat × Nat) [15, 58, 59, 60, 61, 62, 63, 64, 65, 66, 67, 68, 69, 70, 71, 72, 73, 74, 75, 76, 77, 78, 79, 80, 81, 82, 83, 84, 85, 86] (fun ⟨x, p, arcs, signs, wl, x1, ca, x2, cg⟩ => [(15, .int .i64 x)]) (fun ⟨x, p, arcs, signs, wl, x1, ca, x2, cg⟩ w_ => Out bA (bc + 1) w78 w_ ∧ el evs (p : Int) = x ∧ Bk N tree evs vis (el N.acts (k : Int)).tt p wl ∧ arcs = (k : Int) :: wl.map Prod.fst ∧ signs = 1 :: wl.map Prod.snd ∧ (x1 ≠ bc ∧ x2 ≠ bc ∧ x1 ≠ x2 ∧ bA ≤ x1 ∧ bA ≤ x2 ∧ x1 < w_.heap.size ∧ x2 < w_.heap.size) ∧ Blk w_ bc [.slice (some ⟨x1, 0, none⟩) arcs.length ca, .slice (some ⟨x2, 0, none⟩) signs.length cg] ∧ Ow 3 Wk.encI 1 bA w_.heap.size w_ (some ⟨x1, 0, none⟩) ca arcs ∧ Ow 3 Wk.encI 1 bA w_.heap.size w_ (some ⟨x2, 0, none⟩) cg signs) (fun ⟨x, p, arcs, signs, wl, x1, ca, x2, cg⟩ => p) ((el N.acts (k : Int)).tt, p0, _, _, [], _, _, _, _) ⟨rfl, trivial⟩ ⟨Out.refl _ _ _, hpe2, ⟨hp0, hpe2.symm, List.nodup_nil, fun q hq => (by cases hq)⟩, rfl, rfl, by omega, hbc, (hA.lower (by omega)).wide (by omega), (hG.lower (by omega)).wide (by omega)⟩ ?_
    rintro ⟨x, p, arcs, signs, wl, x1, ca, x2, cg⟩ hav_ w82 ⟨ho83, hxe, hbk, haw, hgw, ⟨s1_, s2_, s3_, s4_, s5_, s6_, s7_⟩, hbc, hA, hG⟩
    have hlp1 := ho83
    have hz84 := ho83.size
    replace hN := hN.out ho83 (by (try simp only [blk_some, hi1_some]); omega)
    replace hT := hT.out ho83 (by (try simp only [blk_some, hi1_some]); omega)
    replace hE := hE.step ho83 (by (try simp only [blk_some, hi1_some]); omega)
    replace hb2 := hb2.out ho83 (by (try simp only [blk_some, hi1_some]); omega)
    replace hLv := hLv.out ho83 (by (try simp only [blk_some, hi1_some]); omega)
    replace hO := hO.out ho83 (by (try simp only [blk_some, hi1_some]); omega)
    replace hCR := hCR.out ho83 (by (try simp only [blk_some, hi1_some]); omega)
    replace hlp0 := hlp0.step ho83 (by (try simp only [blk_some, hi1_some]); omega)
    replace hba := hba.out ho83 (by (try simp only [blk_some, hi1_some]); omega)
    replace hB := hB.out ho83 (by (try simp only [blk_some, hi1_some]); omega)
    replace hbb := hbb.out ho83 (by (try simp only [blk_some, hi1_some]); omega)
    replace hF := hF.out ho83 (by (try simp only [blk_some, hi1_some]); omega)
    replace hbf := hbf.out ho83 (by (try simp only [blk_some, hi1_some]); omega)
    have hbcl := hbc.lt
    refine wp_seq ?_
    refine wp_seq ?_
    refine rg ?_
    refine st (mvI rfl) ?_
    refine st (y_fld fld43_1 rfl) ?_
    refine st (y_lb hba na3 rfl rfl) ?_
    refine st (y_neq rfl rfl) ?_
    refine rg_end ?_
    refine n_then ?_
    refine cnd rfl (fun hc3 => ?_) (fun hc3 => ?_)
    ·
     try simp only [nm] at hc3
     have hpne : p ≠ 0 := fun e => by rw [e, show ((0 : Nat) : Int) = 0 from rfl, hvs.at0] at hxe; exact hc3 hxe.symm
     obtain ⟨k', hk'⟩ : ∃ k', p = k' + 1 := ⟨p - 1, by omega⟩
     subst hk'
     have hlt := hbk.lt
     have hvln := hvs.len
     obtain ⟨p', hp1, hp2, hbk1⟩ := hbk.step hvs
     have hxe2 := hvs.atS (k := k') (by omega)
     rw [hxe] at hxe2
     have hx0 := hvs.rng x (by rw [← hxe]; exact el_mem (by omega) (by omega))
     obtain ⟨hfa, hfb⟩ := hfv.at_ _ (el_mem (l := vis) (i := (k' : Int)) (by omega) (by omega))
     rw [← hxe2] at hfa hfb
     have hwl := hbk1.len htm
     have hal : arcs.length ≤ 513 := by rw [haw]; simp at hwl ⊢; omega
     have hgl : signs.length ≤ 513 := by rw [hgw]; simp at hwl ⊢; omega
     have hsg : el By x = (el vis (k' : Int)).2.1 := hfa
     have hsr : (el vis (k' : Int)).2.1.2 = 1 ∨ (el vis (k' : Int)).2.1.2 = -1 := (hvs.vi k' (by omega)).2.1
     have hneg : (el By x).2 = 1 ∨ (el By x).2 = -1 := by rw [hsg]; exact hsr
     clear hOr0
     refine wp_skip ?_
     refine n_then ?_
     refine wp_seq ?_
     refine wp_block ?_
     refine wp_seq ?_
     refine rgD 8 (fun w_ => Ext w82 w_) (fun i => Nat.beq i 7) mixed (by kernel_rfl) ?_
     intro w85 ho86 hs87
     refine ⟨ho86, ?_⟩
     have hx88 := ho86
     refine tn rfl (fun _ hG => y_fld fld37_0 rfl) ?_
     refine tn rfl (fun _ hG => y_lb (hbc.ext hG) na22 rfl rfl) ?_
     refine tn rfl (fun _ hG => y_lb (hbb.ext hG) na87 rfl rfl) ?_
     refine tn rfl (fun _ hG => mvI rfl) ?_
     refine tn rfl (fun _ hG => y_ix (hB.ext hG).sl sl87 rfl (hbl.symm) rfl (hx0.1) (by omega)) ?_
     refine tn rfl (fun _ hG => y_fld fld75_0 rfl) ?_
     refine tn rfl (fun _ hG => y_lf (hB.ext hG).sl na3 rfl (hx0.1) (by omega) rfl) ?_
     refine td rfl (d_bs (bsl22_1 _ _) rfl ?_)
     intro bl92 w89 hbbl92 hs91 ho90 hbl92
     have hx93 := hx88.step ho90 (.inl (Nat.le_refl _))
     have hz94 := ho90.size
     refine ⟨hx93, ?_⟩
     refine t_end ?_
     have hz95 := hx93.size
     replace hba := hba.ext hx93
     replace hB := hB.ext hx93
     replace hbb := hbb.ext hx93
     replace hF := hF.ext hx93
     replace hbf := hbf.ext hx93
     replace hbc := hbc.ext hx93
     replace hA := hA.ext hx93
     replace hG := hG.ext hx93
     replace hlp1 := hlp1.step hx93 (.inl (Nat.le_refl _))
     have hrhA := hA.rng
     refine sd (d_appA (xs := [(el By x).1]) hA sl22 infoz3 (by decide) rfl rfl rfl rfl (hbl92) (fun _ => rfl) (by simp; unfold maxLen; omega) (by simp; omega) (by omega) (by omega) ?_)
     intro aa1 ca1 w96 hatA hoA hA'
     have hs97 := hoA.size
     clear hA; have hA := hA'; clear hA'
     have hz100 := hoA.size
     replace hba := hba.out hoA (by (try simp only [blk_some, hi1_some]); omega)
     replace hB := hB.out hoA (by (try simp only [blk_some, hi1_some]); omega)
     replace hbb := hbb.out hoA (by (try simp only [blk_some, hi1_some]); omega)
     replace hF := hF.out hoA (by (try simp only [blk_some, hi1_some]); omega)
     replace hbf := hbf.out hoA (by (try simp only [blk_some, hi1_some]); omega)
     replace hbc := hbc.out hoA (by (try simp only [blk_some, hi1_some]); omega)
     replace hG := hG.out hoA (by (try simp only [blk_some, hi1_some]); omega)
     replace hlp1 := hlp1.step hoA (by (try simp only [blk_some, hi1_some]); omega)
     obtain ⟨y1, hy1e, hy1, hy1l⟩ := app_at hA hatA
     subst hy1e
     clear hatA hrhA
     refine st (y_fld fld37_0 rfl) ?_
     refine sd0 (d_st hbc sz22 rfl rfl rfl (Nat.le_of_ble_eq_true rfl) ?_)
     intro w101 hs103 ho102 hbc'
     clear hbc; have hbc := hbc'; clear hbc'
     have hz104 := ho102.size
     replace hba := hba.out ho102 (by (try simp only [blk_some, hi1_some]); omega)
     replace hB := hB.out ho102 (by (try simp only [blk_some, hi1_some]); omega)
     replace hbb := hbb.out ho102 (by (try simp only [blk_some, hi1_some]); omega)
     replace hF := hF.out ho102 (by (try simp only [blk_some, hi1_some]); omega)
     replace hbf := hbf.out ho102 (by (try simp only [blk_some, hi1_some]); omega)
     replace hG := hG.out ho102 (by (try simp only [blk_some, hi1_some]); omega)
     replace hlp1 := hlp1.step ho102 (by (try simp only [blk_some, hi1_some]); omega)
     replace hA := hA.out ho102 (by (try simp only [blk_some, hi1_some]); omega)
     refine rg_end ?_
     refine n_then ?_
     refine rgD 9 (fun w_ => Ext w101 w_) (fun i => Nat.beq i 8) mixed (by kernel_rfl) ?_
     intro w105 ho106 hs107
     refine ⟨ho106, ?_⟩
     have hx108 := ho106
     refine tn rfl (fun _ hG => y_fld fld37_1 rfl) ?_
     refine tn rfl (fun _ hG => y_lb (hbc.ext hG) na22 rfl rfl) ?_
     refine tn rfl (fun _ hG => y_lb (hbb.ext hG) na87 rfl rfl) ?_
     refine tn rfl (fun _ hG => mvI rfl) ?_
     refine tn rfl (fun _ hG => y_ix (hB.ext hG).sl sl87 rfl (hbl.symm) rfl (hx0.1) (by omega)) ?_
     refine tn rfl (fun _ hG => y_fld fld75_1 rfl) ?_
     refine tn rfl (fun _ hG => y_lf (hB.ext hG).sl na3 rfl (hx0.1) (by omega) rfl) ?_
     refine tn rfl (fun _ hG => y_neg rfl (by omega)) ?_
     refine td rfl (d_bs (bsl22_1 _ _) rfl ?_)
     intro bl112 w109 hbbl112 hs111 ho110 hbl112
     have hx113 := hx108.step ho110 (.inl (Nat.le_refl _))
     have hz114 := ho110.size
     refine ⟨hx113, ?_⟩
     refine t_end ?_
     have hz115 := hx113.size
     replace hba := hba.ext hx113
     replace hB := hB.ext hx113
     replace hbb := hbb.ext hx113
     replace hF := hF.ext hx113
     replace hbf := hbf.ext hx113
     replace hbc := hbc.ext hx113
     replace hG := hG.ext hx113
     replace hlp1 := hlp1.step hx113 (.inl (Nat.le_refl _))
     replace hA := hA.ext hx113
     have hrhG := hG.rng
     refine sd (d_appA (xs := [-(el By x).2]) hG sl22 infoz3 (by decide) rfl rfl rfl rfl (hbl112) (fun _ => rfl) (by simp; unfold maxLen; omega) (by simp; omega) (by omega) (by omega) ?_)
     intro ag1 cg1 w116 hatG hoG hG'
     have hs117 := hoG.size
     clear hG; have hG := hG'; clear hG'
     have hz120 := hoG.size
     replace hba := hba.out hoG (by (try simp only [blk_some, hi1_some]); omega)
     replace hB := hB.out hoG (by (try simp only [blk_some, hi1_some]); omega)
     replace hbb := hbb.out hoG (by (try simp only [blk_some, hi1_some]); omega)
     replace hF := hF.out hoG (by (try simp only [blk_some, hi1_some]); omega)
     replace hbf := hbf.out hoG (by (try simp only [blk_some, hi1_some]); omega)
     replace hbc := hbc.out hoG (by (try simp only [blk_some, hi1_some]); omega)
     replace hlp1 := hlp1.step hoG (by (try simp only [blk_some, hi1_some]); omega)
     replace hA := hA.out hoG (by (try simp only [blk_some, hi1_some]); omega)
     obtain ⟨y2, hy2e, hy2, hy2l⟩ := app_at hG hatG
     subst hy2e
     clear hatG hrhG
     refine st (y_fld fld37_1 rfl) ?_
     refine sd0 (d_st hbc sz22 rfl rfl rfl (Nat.le_of_ble_eq_true rfl) ?_)
     intro w121 hs123 ho122 hbc'
     clear hbc; have hbc := hbc'; clear hbc'
     have hz124 := ho122.size
     replace hba := hba.out ho122 (by (try simp only [blk_some, hi1_some]); omega)
     replace hB := hB.out ho122 (by (try simp only [blk_some, hi1_some]); omega)
     replace hbb := hbb.out ho122 (by (try simp only [blk_some, hi1_some]); omega)
     replace hF := hF.out ho122 (by (try simp only [blk_some, hi1_some]); omega)
     replace hbf := hbf.out ho122 (by (try simp only [blk_some, hi1_some]); omega)
     replace hlp1 := hlp1.step ho122 (by (try simp only [blk_some, hi1_some]); omega)
     replace hA := hA.out ho122 (by (try simp only [blk_some, hi1_some]); omega)
     replace hG := hG.out ho122 (by (try simp only [blk_some, hi1_some]); omega)
     refine rg_end ?_
     refine n_blk ?_
     refine n_then ?_
     refine rg ?_
     refine st (y_lb hbf na22 rfl rfl) ?_
     refine st (mvI rfl) ?_
     refine st (y_ix hF.sl sl22 rfl (hfl.symm) rfl (hx0.1) (by omega)) ?_
     refine st (y_le hF.sl na3 rfl (hx0.1) (by omega) rfl) ?_
     refine st (asI rfl) ?_
     refine rg_end ?_
     exact n_then ⟨(_, p', _, _, wl ++ [((el vis (k' : Int)).2.1.1, -(el vis (k' : Int)).2.1.2)], _, _, _, _), _, rfl, same_lk rfl (same_h0), ⟨rfl, trivial⟩, ⟨hlp1, by rw [hp2, hfb], hbk1, by rw [haw, hsg]; simp, by rw [hgw, hsg]; simp, by omega, hbc, hA.wide (by omega), hG.wide (by omega)⟩, hp1⟩
    ·
     try simp only [nm] at hc3
     have hxf : el evs (p : Int) = (el N.acts (k : Int)).fr := by rw [hxe]; exact hc3
     have hcyw : CyW N tree (k : Int) (arcs, signs) := ⟨wl, by rw [← hxf]; exact hbk.wa, hbk.nd, by rw [haw, hgw]⟩
     have hfr1 := hfr.add hnt hcyw
     have hlw := hbk.len htm
     have hcap := hA.lenLe
     have hcy := cyw_ok hok hfo.a htm (by omega) (by omega) hnt hcyw
     refine wp_exit ?_
     refine e_then (e_then (e_blk (?_)))
     refine n_then ?_
     refine rg ?_
     refine st (mvS rfl) ?_
     refine st (y_lbN hbc agg37 rfl) ?_
     refine sd (d_bs (bsl30_1 _ _ _ _ _ _ _) rfl ?_)
     intro bl128 w125 hbbl128 hs127 ho126 hbl128
     have hz129 := ho126.size
     replace hN := hN.ext ho126
     replace hT := hT.ext ho126
     replace hE := hE.step ho126 (.inl (Nat.le_refl _))
     replace hb2 := hb2.ext ho126
     replace hLv := hLv.ext ho126
     replace hO := hO.ext ho126
     replace hCR := hCR.ext ho126
     replace hlp0 := hlp0.step ho126 (.inl (Nat.le_refl _))
     replace hba := hba.ext ho126
     replace hB := hB.ext ho126
     replace hbb := hbb.ext ho126
     replace hF := hF.ext ho126
     replace hbf := hbf.ext ho126
     replace hbc := hbc.ext ho126
     replace hA := hA.ext ho126
     replace hG := hG.ext ho126
     have hn1 := Ow.sl hA
     have hn2 := Ow.sl hG
     have hcap := hA.lenLe
     have hR0 := hCR.wide (hi' := w125.heap.size) (by omega)
     have hOr := hO.rng
     have hrhO := hO.rng
     refine sd (d_appA (xs := [(⟨some ⟨x1, 0, none⟩, ca, arcs, some ⟨x2, 0, none⟩, cg, signs⟩ : Cyc)]) hO sl30 infoz37 (by decide) rfl rfl rfl rfl (hbl128) (fun _ => rfl) (by simp; unfold maxLen; omega) (by simp; omega) (by omega) (by omega) ?_)
     intro ao1 co1 w130 hat hoO hO'
     have hs131 := hoO.size
     clear hO; have hO := hO'; clear hO'
     have hz134 := hoO.size
     replace hN := hN.out hoO (by (try simp only [blk_some, hi1_some]); omega)
     replace hT := hT.out hoO (by (try simp only [blk_some, hi1_some]); omega)
     replace hE := hE.step hoO (by (try simp only [blk_some, hi1_some]); omega)
     replace hb2 := hb2.out hoO (by (try simp only [blk_some, hi1_some]); omega)
     replace hLv := hLv.out hoO (by (try simp only [blk_some, hi1_some]); omega)
     replace hlp0 := hlp0.step hoO (by (try simp only [blk_some, hi1_some]); omega)
     replace hba := hba.out hoO (by (try simp only [blk_some, hi1_some]); omega)
     replace hB := hB.out hoO (by (try simp only [blk_some, hi1_some]); omega)
     replace hbb := hbb.out hoO (by (try simp only [blk_some, hi1_some]); omega)
     replace hF := hF.out hoO (by (try simp only [blk_some, hi1_some]); omega)
     replace hbf := hbf.out hoO (by (try simp only [blk_some, hi1_some]); omega)
     replace hbc := hbc.out hoO (by (try simp only [blk_some, hi1_some]); omega)
     have hCR1 := hR0.app (r := (⟨some ⟨x1, 0, none⟩, ca, arcs, some ⟨x2, 0, none⟩, cg, signs⟩ : Cyc)) hn1 hn2 (by omega) (by omega) (by omega) (by omega) (by omega) (by omega) hoO (Nat.le_refl _) hat
     have hall1 : ∀ r ∈ l ++ [(⟨some ⟨x1, 0, none⟩, ca, arcs, some ⟨x2, 0, none⟩, cg, signs⟩ : Cyc)], CyOk N r.arcs r.signs ∧ r.arcs.length ≤ r.c := fun r hr => by
       rcases List.mem_append.1 hr with h | h
       · exact hall r h
       · rw [List.mem_singleton.1 h]; exact ⟨hcy, hcap⟩
     refine st (asS rfl) ?_
     refine rg_end ?_
     refine n_blk ?_
     refine n_then ?_
     refine rg ?_
     refine st (y_add rfl rfl (by omega)) ?_
     refine st (mvI rfl) ?_
     refine rg_end ?_
     exact n_then ⟨(k + 1, _, _, _), _, rfl, same_lk rfl (same_hav rfl (same_lk rfl (same_h0))), ⟨rfl, rfl, trivial⟩, ⟨hlp0, by omega, by first | omega | (simp; omega), by simpa [prC] using hfr1, hall1, hO.wide (by omega), hCR1.wide (by omega)⟩, by first | omega | (dsimp only; omega)⟩
  ·
   try simp only [nm] at hc1
   have hkk : k = N.acts.length := by omega
   subst hkk
   refine wp_exit ?_
   refine e_then (e_then (e_blk (?_)))
   refine n_then ?_
   refine wp_seq ?_
   refine rg ?_
   refine st (mvS rfl) ?_
   refine st (asS rfl) ?_
   refine st (asI rfl) ?_
   refine rg_end ?_
   refine n_then ?_
   refine wp_ret ?_
   refine ret2 (v := (.slice _ _ _)) (v' := (.int .i64 _)) Try.results30 rfl rfl ?_
   exact ⟨ao, co, l, 0, rfl, ⟨Sl.wide (Ow.sl hO) (by omega) (by omega), fun r hr => by
     obtain ⟨l1, h1, l2, h2, a1, a2, a3, a4, a5, a6, a7, a8⟩ := hCR.row r hr
     exact ⟨Sl.wide a1 (by omega) (by omega), Sl.wide a2 (by omega) (by omega)⟩⟩, hall, by omega, fun h => absurd hfo h, fun _ => ⟨rfl, hfr⟩, hE⟩
end Go.Proofs.Ytdgkaahghlbocaa
