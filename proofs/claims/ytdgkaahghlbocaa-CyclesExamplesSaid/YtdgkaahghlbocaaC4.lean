/-
  Walks of the functions, printed by a program out of the code and the loops' relations.
-/
import Derived.Test.YtdgkaahghlbocaaWkV
import Derived.Test.YtdgkaahghlbocaaProg
import Derived.KernelRfl
import Derived.Test.YtdgkaahghlbocaaC3
namespace Go.Proofs.Ytdgkaahghlbocaa
open Go.Wk Go.RowKit
set_option linter.unusedVariables false
set_option linter.unusedSimpArgs false
theorem cl46 : Callable Try.prog 46 := ⟨Try.call46⟩
theorem cl47 : Callable Try.prog 47 := ⟨Try.call47⟩
theorem cl48 : Callable Try.prog 48 := ⟨Try.call48⟩
theorem na66 : NotAgg Try.prog 66 := Try.isAgg66
theorem sz22 : SzOf Try.prog 22 1 := Try.sizeOf22
theorem sz66 : SzOf Try.prog 66 1 := Try.sizeOf66
theorem zer22 : ZeroOf Try.prog 22 (.slice none 0 0) := Try.zeroValue22
theorem zer66 : ZeroOf Try.prog 66 (.slice none 0 0) := Try.zeroValue66

set_option maxRecDepth 100000 in
theorem pot_lit_ok (N : Net) (A : NetA) (vals : List Int) (av : Option Addr) (cv lv hv_ : Nat) (bn bv bt bk bT bK : Nat) (Kn : List Bool) (X : List Int) (e : Int) (p : Int × Int) (f : Int) (w : World) (hbn : Blk w bn (netCells N A)) (hbv : Blk w bv [.slice av vals.length cv]) (hbt : Blk w bt [.slice (some ⟨bT, 0, none⟩) N.evs.length N.evs.length]) (hbk : Blk w bk [.slice (some ⟨bK, 0, none⟩) N.evs.length N.evs.length]) (hbTK : bT < bK) (hsn : bn < bT) (hsv : bv < bT) (hst : bT < bt ∧ bt < bK) (hsk : bK < bk) (hV : Ints lv hv_ w av vals) (hvT : hv_ ≤ bT) (hK : Ow 4 encB 1 bT (bK + 1) w (some ⟨bK, 0, none⟩) N.evs.length Kn) (hX : Ow 3 encI 1 bT (bK + 1) w (some ⟨bT, 0, none⟩) N.evs.length X) (hok : NetOk N) (hkl : Kn.length = N.evs.length) (hxl : X.length = N.evs.length) (hxr : ∀ x : Int, 0 ≤ x → x < N.evs.length → 0 ≤ el X x ∧ el X x < N.p) (hin : inR N vals = true) (hp : 0 ≤ p.1 ∧ p.1 < N.acts.length) (hs : p.2 = 1 ∨ p.2 = -1) (he : 0 ≤ e ∧ e < N.evs.length) (hf : 0 ≤ f ∧ f < N.evs.length) : Cal Try.prog 48 [.int .i64 e, .agg (encArc p).toArray, .int .i64 f, .pointer (some ⟨bk, 0, none⟩), .pointer (some ⟨bt, 0, none⟩), .pointer (some ⟨bv, 0, none⟩), .pointer (some ⟨bn, 0, none⟩)] w (fun v w' => v = .tuple #[] ∧ Ow 4 encB 1 bT (bK + 1) w' (some ⟨bK, 0, none⟩) N.evs.length (Kn.set e.toNat true) ∧ Ow 3 encI 1 bT (bK + 1) w' (some ⟨bT, 0, none⟩) N.evs.length (X.set e.toNat ((el X f + p.2 * el vals p.1) % N.p)) ∧ Blk w' bt [.slice (some ⟨bT, 0, none⟩) N.evs.length N.evs.length] ∧ Out bT (bK + 1) w w') := by
 obtain ⟨r1, r2⟩ := inR_iff.1 hin
 have hv1 := r2 p.1.toNat (by omega)
 rw [Int.toNat_of_nonneg hp.1] at hv1
 have hxf := hxr f hf.1 hf.2
 have hp2 := hok.p2
 have hp7 := hok.p7
 have hmul : -131072 ≤ p.2 * el vals p.1 ∧ p.2 * el vals p.1 ≤ 131072 := by rcases hs with q | q <;> rw [q] <;> omega
 have hbnl := hbn.lt
 have hbvl := hbv.lt
 have hbtl := hbt.lt
 have hbkl := hbk.lt
 have hE : Out bT (bK + 1) w w := Out.refl _ _ w
 refine enter Try.func48 rfl Try.ntmps48 rfl ?_
 refine wp_seq ?_
 refine rg ?_
 refine sd (d_boxA rfl ?_)
 intro b8 w1 hbb8 hs3 ho2 hb8
 have hz4 := ho2.size
 replace hbn := hbn.ext ho2
 replace hbv := hbv.ext ho2
 replace hbt := hbt.ext ho2
 replace hbk := hbk.ext ho2
 replace hV := hV.ext ho2
 replace hK := hK.ext ho2
 replace hX := hX.ext ho2
 replace hE := hE.step ho2 (.inl (Nat.le_refl _))
 refine rg_end ?_
 refine n_then ?_
 refine wp_seq ?_
 refine rg ?_
 refine st (y_lb hbk na66 rfl rfl) ?_
 refine st (mvI rfl) ?_
 refine st (y_ix hK.sl sl66 rfl (hkl.symm) rfl (by omega) (by omega)) ?_
 refine sd0 (d_se (j := 0) (e' := true) hK sz4 rfl rfl rfl (by omega) (by omega) (Nat.le_of_ble_eq_true rfl) rfl ?_)
 intro w5 hs7 ho6 hK'
 have hrhK := hK.rng
 clear hK; have hK := hK'; clear hK'
 have hz8 := ho6.size
 replace hbn := hbn.out ho6 (by first | omega | (simp only [blk_some, hi1_some] at *; omega))
 replace hbv := hbv.out ho6 (by first | omega | (simp only [blk_some, hi1_some] at *; omega))
 replace hbt := hbt.out ho6 (by first | omega | (simp only [blk_some, hi1_some] at *; omega))
 replace hbk := hbk.out ho6 (by first | omega | (simp only [blk_some, hi1_some] at *; omega))
 replace hV := hV.out ho6 (by first | omega | (simp only [blk_some, hi1_some] at *; omega))
 have hrnhX := hX.rng
 replace hX := hX.out ho6 (by first | omega | (simp only [blk_some, hi1_some] at *; omega))
 replace hE := hE.step ho6 (by first | omega | (simp only [blk_some, hi1_some] at *; omega))
 replace hb8 := hb8.out ho6 (by first | omega | (simp only [blk_some, hi1_some] at *; omega))
 refine rg_end ?_
 refine n_then ?_
 refine rgD 18 (fun w_ => Ext w5 w_) (fun i => Nat.beq i 17) mixed (by kernel_rfl) ?_
 intro w9 ho10 hs11
 refine ⟨ho10, ?_⟩
 have hx12 := ho10
 refine tn rfl (fun _ hG => y_lb (hbt.ext hG) na22 rfl rfl) ?_
 refine tn rfl (fun _ hG => mvI rfl) ?_
 refine tn rfl (fun _ hG => y_lb (hbt.ext hG) na22 rfl rfl) ?_
 refine tn rfl (fun _ hG => mvI rfl) ?_
 refine tn rfl (fun _ hG => y_ix (hX.ext hG).sl sl22 rfl (hxl.symm) rfl (by omega) (by omega)) ?_
 refine tn rfl (fun _ hG => y_le (hX.ext hG).sl na3 rfl (by omega) (by omega) rfl) ?_
 refine tn rfl (fun _ hG => y_fld fld75_1 rfl) ?_
 refine tn rfl (fun _ hG => y_lb (hb8.ext hG) na3 rfl rfl) ?_
 refine tn rfl (fun _ hG => y_lb (hbv.ext hG) na22 rfl rfl) ?_
 refine tn rfl (fun _ hG => y_fld fld75_0 rfl) ?_
 refine tn rfl (fun _ hG => y_lb (hb8.ext hG) na3 rfl rfl) ?_
 refine tn rfl (fun _ hG => y_ix (hV.ext hG) sl22 rfl (rfl) rfl (by omega) (by omega)) ?_
 refine tn rfl (fun _ hG => y_le (hV.ext hG) na3 rfl (by omega) (by omega) rfl) ?_
 refine tn rfl (fun _ hG => y_mul rfl rfl (by omega)) ?_
 refine tn rfl (fun _ hG => y_add rfl rfl (by omega)) ?_
 refine tn rfl (fun _ hG => y_fld fld26_0 rfl) ?_
 refine tn rfl (fun _ hG => y_lb (hbn.ext hG) na3 rfl rfl) ?_
 refine tc rfl cl49 (arith_Mod_ok _ _ _ (by omega) (by omega) (by omega)) rfl ?_
 rintro v17 w13 ⟨rfl, ho14⟩
 have hx18 := hx12.step ho14 (.inl (Nat.le_refl _))
 have hz19 := ho14.size
 refine ⟨hx18, ?_⟩
 refine t_end ?_
 have hz20 := hx18.size
 replace hbn := hbn.ext hx18
 replace hbv := hbv.ext hx18
 replace hbt := hbt.ext hx18
 replace hbk := hbk.ext hx18
 replace hV := hV.ext hx18
 replace hK := hK.ext hx18
 replace hX := hX.ext hx18
 replace hE := hE.step hx18 (.inl (Nat.le_refl _))
 replace hb8 := hb8.ext hx18
 refine st (y_ix hX.sl sl22 rfl (hxl.symm) rfl (by omega) (by omega)) ?_
 refine sd0 (d_se (j := 0) (e' := ((el X f + p.2 * el vals p.1) % N.p)) hX sz3 rfl rfl rfl (by omega) (by omega) (Nat.le_of_ble_eq_true rfl) rfl ?_)
 intro w21 hs23 ho22 hX'
 have hrhX := hX.rng
 clear hX; have hX := hX'; clear hX'
 have hz24 := ho22.size
 replace hbn := hbn.out ho22 (by first | omega | (simp only [blk_some, hi1_some] at *; omega))
 replace hbv := hbv.out ho22 (by first | omega | (simp only [blk_some, hi1_some] at *; omega))
 replace hbt := hbt.out ho22 (by first | omega | (simp only [blk_some, hi1_some] at *; omega))
 replace hbk := hbk.out ho22 (by first | omega | (simp only [blk_some, hi1_some] at *; omega))
 replace hV := hV.out ho22 (by first | omega | (simp only [blk_some, hi1_some] at *; omega))
 have hrnhK := hK.rng
 replace hK := hK.out ho22 (by first | omega | (simp only [blk_some, hi1_some] at *; omega))
 replace hE := hE.step ho22 (by first | omega | (simp only [blk_some, hi1_some] at *; omega))
 replace hb8 := hb8.out ho22 (by first | omega | (simp only [blk_some, hi1_some] at *; omega))
 refine rg_end ?_
 refine end0 Try.results48 ?_
 exact ⟨rfl, hK, hX, hbt, hE⟩

structure PotI (N : Net) (A : NetA) (vals : List Int) (av : Option Addr) (cv lv hv_ bn bv bt bk bT bK : Nat) (Kn0 : List Bool) (X0 : List Int) (vis : List Vt) (w : World) : Prop where
  bn : Blk w bn (netCells N A)
  bv : Blk w bv [.slice av vals.length cv]
  bt : Blk w bt [.slice (some ⟨bT, 0, none⟩) N.evs.length N.evs.length]
  bk : Blk w bk [.slice (some ⟨bK, 0, none⟩) N.evs.length N.evs.length]
  hv : Ints lv hv_ w av vals
  ex : ∃ Kn X, Ow 4 encB 1 bT (bK + 1) w (some ⟨bK, 0, none⟩) N.evs.length Kn ∧ Ow 3 encI 1 bT (bK + 1) w (some ⟨bT, 0, none⟩) N.evs.length X ∧ PotV N vals Kn0 X0 vis Kn X
theorem PotI.keep {N : Net} {A : NetA} {vals : List Int} {av : Option Addr} {cv lv hv_ bn bv bt bk bT bK z : Nat} {Kn0 : List Bool} {X0 : List Int} (s1 : bn < z) (s2 : bv < z) (s3 : bt < z) (s4 : bk < z) (s5 : hv_ ≤ z) (s6 : bT < z) (s7 : bK < z) : ∀ (v : List Vt) (w1 w2 : World) (a b : Nat), PotI N A vals av cv lv hv_ bn bv bt bk bT bK Kn0 X0 v w1 → Out a b w1 w2 → (z ≤ a ∨ b ≤ a) → PotI N A vals av cv lv hv_ bn bv bt bk bT bK Kn0 X0 v w2 := by
  intro v w1 w2 a b h ho hs
  obtain ⟨Kn, X, h1, h2, h3⟩ := h.ex
  have o : ∀ c : Nat, c < z → c < a ∨ b ≤ a := fun c hc => by omega
  have ho' : (z ≤ a ∨ b ≤ a) → ∀ c : Nat, c < z → (c < a ∨ b ≤ c) ∨ b ≤ a := fun _ c hc => by omega
  rcases Nat.lt_or_ge a b with q | q
  · have za : z ≤ a := by omega
    exact ⟨h.bn.out ho (by omega), h.bv.out ho (by omega), h.bt.out ho (by omega), h.bk.out ho (by omega), h.hv.out ho (by omega), Kn, X, h1.out ho (by simp only [blk_some]; omega), h2.out ho (by simp only [blk_some]; omega), h3⟩
  · have he : Ext w1 w2 := ho.wide (.inl q)
    exact ⟨h.bn.ext he, h.bv.ext he, h.bt.ext he, h.bk.ext he, h.hv.ext he, Kn, X, h1.ext he, h2.ext he, h3⟩
theorem PotI.call {N : Net} {A : NetA} {tree vals : List Int} {first : Int} {av : Option Addr} {cv lv hv_ bn bv bt bk bT bK : Nat} {Kn0 : List Bool} {X0 : List Int} (hok : NetOk N) (htm : ∀ a ∈ tree, 0 ≤ a ∧ a < N.acts.length) (hin : inR N vals = true) (hbTK : bT < bK) (hsn : bn < bT) (hsv : bv < bT) (hst : bT < bt ∧ bt < bK) (hsk : bK < bk) (hvT : hv_ ≤ bT) {wz : Nat} :
    ∀ (vis : List Vt) (evs : List Int) (Rd : List Bool) (e : Int) (p : Int × Int) (f : Int) (w1 : World), Vis N tree first evs (vis ++ [(e, p, f)]) Rd → PotI N A vals av cv lv hv_ bn bv bt bk bT bK Kn0 X0 vis w1 → wz ≤ w1.heap.size → Cal Try.prog 48 ([.int .i64 e, .agg (encArc p).toArray, .int .i64 f] ++ [.pointer (some ⟨bk, 0, none⟩), .pointer (some ⟨bt, 0, none⟩), .pointer (some ⟨bv, 0, none⟩), .pointer (some ⟨bn, 0, none⟩)]) w1 (fun v w2 => v = .tuple #[] ∧ PotI N A vals av cv lv hv_ bn bv bt bk bT bK Kn0 X0 (vis ++ [(e, p, f)]) w2 ∧ Out bT (bK + 1) w1 w2) := by
  intro vis evs Rd e p f w1 hv h _
  obtain ⟨Kn, X, h1, h2, h3⟩ := h.ex
  obtain ⟨a1, a2, a3, a4, ae, af, _, _⟩ := vis_last hv
  refine (pot_lit_ok N A vals av cv lv hv_ bn bv bt bk bT bK Kn X e p f w1 h.bn h.bv h.bt h.bk hbTK hsn hsv hst hsk h.hv hvT h1 h2 hok h3.kl h3.xl h3.rng hin (htm _ a1) a2 ae af).mono ?_
  rintro v w2 ⟨rfl, k1, k2, k4, k3⟩
  exact ⟨rfl, ⟨h.bn.out k3 (by omega), h.bv.out k3 (by omega), k4, h.bk.out k3 (by omega), h.hv.out k3 (by omega), _, _, k1, k2, h3.add hok hv rfl⟩, k3⟩

set_option maxHeartbeats 4000000 in
set_option maxRecDepth 100000 in
theorem cycles_Potentials_ok (N : Net) (A : NetA) (lo hi : Nat) (tree : List Int) (at_ : Option Addr) (ct lt ht : Nat) (vals : List Int) (av : Option Addr) (cv lv hv_ : Nat) (w : World) (hN : NetIn lo hi w N A) (hT : Ints lt ht w at_ tree) (htn : (tree.length : Int) ≤ 9223372036854775807) (hV : Ints lv hv_ w av vals) (hvn : (vals.length : Int) ≤ 9223372036854775807)  : Cal Try.prog 18 [netV N A, .slice at_ tree.length ct, .slice av vals.length cv] w (fun v w' => ∃ ad c p e, v = .tuple #[.slice ad p.length c, .int .i64 e] ∧ Ints w.heap.size w'.heap.size w' ad p ∧ (¬ FoOk N tree → p = [] ∧ e = 1) ∧ (FoOk N tree → inR N vals = false → p = [] ∧ e = 4) ∧ (FoOk N tree → inR N vals = true → e = 0 ∧ PotOk N tree vals p) ∧ Ext w w') := by
 replace hN := hN.full
 replace hT := Ints.full hT
 replace hV := Ints.full hV
 have hE : Out 0 0 w w := Out.refl _ _ w
 refine enter Try.func18 rfl Try.ntmps18 rfl ?_
 refine wp_seq ?_
 refine rg ?_
 refine sd (d_boxA rfl ?_)
 intro b3 w1 hbb3 hs3 ho2 hb3
 have hz4 := ho2.size
 replace hN := hN.ext ho2
 replace hT := hT.ext ho2
 replace hV := hV.ext ho2
 replace hE := hE.step ho2 (.inl (Nat.le_refl _))
 refine sd (d_box1 rfl rfl ?_)
 intro b5 w5 hbb5 hs7 ho6 hb5
 have hz8 := ho6.size
 replace hN := hN.ext ho6
 replace hT := hT.ext ho6
 replace hV := hV.ext ho6
 replace hE := hE.step ho6 (.inl (Nat.le_refl _))
 replace hb3 := hb3.ext ho6
 refine st (asS rfl) ?_
 refine st (asI rfl) ?_
 refine rg_end ?_
 refine n_then ?_
 refine wp_seq ?_
 refine wp_block ?_
 refine wp_seq ?_
 refine rg ?_
 refine st (y_lbN hb3 agg26 rfl) ?_
 refine st (mvS rfl) ?_
 refine sc cl44 (cycles_Forest_ok N A _ _ tree _ _ _ _ _ hN hT htn) rfl ?_
 rintro v13 w9 ⟨b, rfl, hb, ho10⟩
 have hz14 := ho10.size
 replace hN := hN.ext ho10
 replace hT := hT.ext ho10
 replace hV := hV.ext ho10
 replace hE := hE.step ho10 (.inl (Nat.le_refl _))
 replace hb3 := hb3.ext ho10
 replace hb5 := hb5.ext ho10
 refine st (y_not rfl) ?_
 refine st (asB rfl) ?_
 refine rg_end ?_
 refine n_then ?_
 refine cnd rfl (fun hc0 => ?_) (fun hc0 => ?_)
 ·
  try simp only [nm] at hc0
  have hno : ¬ FoOk N tree := fun h => by rw [hb.2 h] at hc0; cases hc0
  refine wp_seq ?_
  refine rg ?_
  refine st (asS rfl) ?_
  refine st (asI rfl) ?_
  refine rg_end ?_
  refine n_then ?_
  refine wp_ret ?_
  refine r_blk (r_then (ret2 (v := (.slice _ _ _)) (v' := (.int .i64 _)) Try.results18 rfl rfl ?_))
  exact ⟨none, 0, [], 1, rfl, nilS0, fun _ => ⟨rfl, rfl⟩, fun h => absurd h hno, fun h => absurd h hno, hE⟩
 ·
  try simp only [nm] at hc0
  have hfo := hb.1 hc0
  have hok := hfo.ok
  have hev := hok.ev
  have hac := hok.ac
  have htm := hfo.mem
  refine wp_seq ?_
  refine rg ?_
  refine st (y_lbN hb3 agg26 rfl) ?_
  refine st (y_lb hb5 na22 rfl rfl) ?_
  refine sc cl45 (cycles_inRange_ok N A _ _ vals _ _ _ _ _ hN hV hvn) rfl ?_
  rintro v19 w15 ⟨rfl, ho16⟩
  have hz20 := ho16.size
  replace hN := hN.ext ho16
  replace hT := hT.ext ho16
  replace hV := hV.ext ho16
  replace hE := hE.step ho16 (.inl (Nat.le_refl _))
  replace hb3 := hb3.ext ho16
  replace hb5 := hb5.ext ho16
  refine st (y_not rfl) ?_
  refine st (asB rfl) ?_
  refine rg_end ?_
  refine n_then ?_
  refine cnd rfl (fun hc1 => ?_) (fun hc1 => ?_)
  ·
   try simp only [nm] at hc1
   refine wp_seq ?_
   refine rg ?_
   refine st (asS rfl) ?_
   refine st (asI rfl) ?_
   refine rg_end ?_
   refine n_then ?_
   refine wp_ret ?_
   refine r_blk (r_then (ret2 (v := (.slice _ _ _)) (v' := (.int .i64 _)) Try.results18 rfl rfl ?_))
   exact ⟨none, 0, [], 4, rfl, nilS0, fun h => absurd hfo h, fun _ _ => ⟨rfl, rfl⟩, fun _ h => (by rw [hc1] at h; cases h), hE⟩
  ·
   try simp only [nm] at hc1
   have htl : tree.length ≤ 512 := by
     have := inj_len (n := N.acts.length) tree.length (fun q => el tree (q : Int)) (fun q hq => htm _ (el_mem (by omega) (by omega))) (fun i j hi hj he => by
       have hnd := hfo.a.nodup
       rw [List.nodup_iff_pairwise_ne, List.pairwise_iff_getElem] at hnd
       exact hnd i j (by omega) hj hi (by simpa [el, hj, show i < tree.length by omega] using he))
     omega
   refine wp_skip ?_
   refine n_blk ?_
   refine n_then ?_
   refine wp_seq ?_
   refine rg ?_
   refine st (y_lbN hb3 agg26 rfl) ?_
   refine st (mvS rfl) ?_
   refine sc cl46 (cycles_leaving_ok N A _ _ tree _ _ _ _ _ hN hT htn hok htm htl) rfl ?_
   rintro v25 w21 ⟨ar_, cr_, rows_, rfl, hLv, hlv, ho22⟩
   have hz26 := ho22.size
   replace hN := hN.ext ho22
   replace hT := hT.ext ho22
   replace hV := hV.ext ho22
   replace hE := hE.step ho22 (.inl (Nat.le_refl _))
   replace hb3 := hb3.ext ho22
   replace hb5 := hb5.ext ho22
   refine st (asS rfl) ?_
   refine rg_end ?_
   refine n_then ?_
   refine wp_seq ?_
   refine rg ?_
   refine st (y_fld fld26_1 rfl) ?_
   refine st (y_lb hb3 na23 rfl rfl) ?_
   refine st (y_len Try.underlying23 rfl) ?_
   refine sd (d_make (m := N.evs.length) (lo := w21.heap.size) (enc := encI) (e0 := (0 : Int)) sl22 info3 (fun _ => rfl) rfl rfl rfl (by omega) (by unfold maxLen; omega) (by omega) ?_)
   intro bT w27 hbbT hs29 ho28 hX
   have hz31 := ho28.size
   replace hN := hN.ext ho28
   replace hT := hT.ext ho28
   replace hV := hV.ext ho28
   replace hE := hE.step ho28 (.inl (Nat.le_refl _))
   replace hb3 := hb3.ext ho28
   replace hb5 := hb5.ext ho28
   replace hLv := hLv.ext ho28
   refine sd (d_alloc1 rfl zer22 ?_)
   intro bt w32 hbbt hs34 ho33 hbt
   have hz35 := ho33.size
   replace hN := hN.ext ho33
   replace hT := hT.ext ho33
   replace hV := hV.ext ho33
   replace hE := hE.step ho33 (.inl (Nat.le_refl _))
   replace hb3 := hb3.ext ho33
   replace hb5 := hb5.ext ho33
   replace hLv := hLv.ext ho33
   replace hX := hX.ext ho33
   refine sd0 (d_st hbt sz22 rfl rfl rfl (Nat.le_of_ble_eq_true rfl) ?_)
   intro w36 hs38 ho37 hbt'
   clear hbt; have hbt := hbt'; clear hbt'
   have hz39 := ho37.size
   replace hN := hN.out ho37 (by first | omega | (simp only [blk_some, hi1_some] at *; omega))
   replace hT := hT.out ho37 (by first | omega | (simp only [blk_some, hi1_some] at *; omega))
   replace hV := hV.out ho37 (by first | omega | (simp only [blk_some, hi1_some] at *; omega))
   replace hE := hE.step ho37 (by first | omega | (simp only [blk_some, hi1_some] at *; omega))
   replace hb3 := hb3.out ho37 (by first | omega | (simp only [blk_some, hi1_some] at *; omega))
   replace hb5 := hb5.out ho37 (by first | omega | (simp only [blk_some, hi1_some] at *; omega))
   replace hLv := hLv.out ho37 (by first | omega | (simp only [blk_some, hi1_some] at *; omega))
   have hrnhX := hX.rng
   replace hX := hX.out ho37 (by first | omega | (simp only [blk_some, hi1_some] at *; omega))
   refine rg_end ?_
   refine n_then ?_
   refine wp_seq ?_
   refine rg ?_
   refine st (y_fld fld26_1 rfl) ?_
   refine st (y_lb hb3 na23 rfl rfl) ?_
   refine st (y_len Try.underlying23 rfl) ?_
   refine sd (d_make (m := N.evs.length) (lo := w36.heap.size) (enc := encB) (e0 := false) sl66 info4 (fun _ => rfl) rfl rfl rfl (by omega) (by unfold maxLen; omega) (by omega) ?_)
   intro bK w40 hbbK hs42 ho41 hK
   have hz44 := ho41.size
   replace hN := hN.ext ho41
   replace hT := hT.ext ho41
   replace hV := hV.ext ho41
   replace hE := hE.step ho41 (.inl (Nat.le_refl _))
   replace hb3 := hb3.ext ho41
   replace hb5 := hb5.ext ho41
   replace hLv := hLv.ext ho41
   replace hX := hX.ext ho41
   replace hbt := hbt.ext ho41
   refine sd (d_alloc1 rfl zer66 ?_)
   intro bk w45 hbbk hs47 ho46 hbk
   have hz48 := ho46.size
   replace hN := hN.ext ho46
   replace hT := hT.ext ho46
   replace hV := hV.ext ho46
   replace hE := hE.step ho46 (.inl (Nat.le_refl _))
   replace hb3 := hb3.ext ho46
   replace hb5 := hb5.ext ho46
   replace hLv := hLv.ext ho46
   replace hX := hX.ext ho46
   replace hbt := hbt.ext ho46
   replace hK := hK.ext ho46
   have hbTK : bT < bK := by omega
   refine sd0 (d_st hbk sz66 rfl rfl rfl (Nat.le_of_ble_eq_true rfl) ?_)
   intro w49 hs51 ho50 hbk'
   clear hbk; have hbk := hbk'; clear hbk'
   have hz52 := ho50.size
   replace hN := hN.out ho50 (by first | omega | (simp only [blk_some, hi1_some] at *; omega))
   replace hT := hT.out ho50 (by first | omega | (simp only [blk_some, hi1_some] at *; omega))
   replace hV := hV.out ho50 (by first | omega | (simp only [blk_some, hi1_some] at *; omega))
   replace hE := hE.step ho50 (by first | omega | (simp only [blk_some, hi1_some] at *; omega))
   replace hb3 := hb3.out ho50 (by first | omega | (simp only [blk_some, hi1_some] at *; omega))
   replace hb5 := hb5.out ho50 (by first | omega | (simp only [blk_some, hi1_some] at *; omega))
   replace hLv := hLv.out ho50 (by first | omega | (simp only [blk_some, hi1_some] at *; omega))
   replace hX := hX.out ho50 (by first | omega | (simp only [blk_some, hi1_some] at *; omega))
   replace hbt := hbt.out ho50 (by first | omega | (simp only [blk_some, hi1_some] at *; omega))
   have hrnhK := hK.rng
   replace hK := hK.out ho50 (by first | omega | (simp only [blk_some, hi1_some] at *; omega))
   refine rg_end ?_
   refine n_then ?_
   refine wp_seq ?_
   refine wp_seq ?_
   refine rg ?_
   refine st (y_lb hbt na22 rfl rfl) ?_
   refine st (y_len Try.underlying22 rfl) ?_
   refine st (mvI rfl) ?_
   refine rg_end ?_
   refine n_then ?_
   refine wp_block ?_
   refine lp (γ := Nat × List Bool × List Int) [11, 35, 36, 37, 38, 39, 40, 41, 42, 43, 44, 45, 46, 47, 48, 49, 50] (fun ⟨k, Kn, X⟩ => [(35, .int .i64 (k : Int))]) (fun ⟨k, Kn, X⟩ w_ => Out bT (bK + 1) w49 w_ ∧ k ≤ N.evs.length ∧ PotTo N tree vals k Kn X ∧ Ow 4 encB 1 bT (bK + 1) w_ (some ⟨bK, 0, none⟩) N.evs.length Kn ∧ Ow 3 encI 1 bT (bK + 1) w_ (some ⟨bT, 0, none⟩) N.evs.length X ∧ Blk w_ bt [.slice (some ⟨bT, 0, none⟩) N.evs.length N.evs.length]) (fun ⟨k, Kn, X⟩ => N.evs.length - k) (0, _, _) ⟨rfl, trivial⟩ ⟨Out.refl _ _ _, by simp, PotTo.start hok, hK.lower (by omega), (hX.lower (by omega)).wide (by omega), hbt⟩ ?_
   rintro ⟨k, Kn, X⟩ hav_ w53 ⟨ho54, hk, hpt, hK, hX, hbt⟩
   have hlp0 := ho54
   have hz55 := ho54.size
   replace hN := hN.out ho54 (by first | omega | (simp only [blk_some, hi1_some] at *; omega))
   replace hT := hT.out ho54 (by first | omega | (simp only [blk_some, hi1_some] at *; omega))
   replace hV := hV.out ho54 (by first | omega | (simp only [blk_some, hi1_some] at *; omega))
   replace hE := hE.step ho54 (by first | omega | (simp only [blk_some, hi1_some] at *; omega))
   replace hb3 := hb3.out ho54 (by first | omega | (simp only [blk_some, hi1_some] at *; omega))
   replace hb5 := hb5.out ho54 (by first | omega | (simp only [blk_some, hi1_some] at *; omega))
   replace hLv := hLv.out ho54 (by first | omega | (simp only [blk_some, hi1_some] at *; omega))
   replace hbk := hbk.out ho54 (by first | omega | (simp only [blk_some, hi1_some] at *; omega))
   refine wp_seq ?_
   refine rg ?_
   refine st (y_lss rfl rfl) ?_
   refine rg_end ?_
   refine n_then ?_
   refine wp_seq ?_
   refine cnd rfl (fun hc2 => ?_) (fun hc2 => ?_)
   ·
    try simp only [nm] at hc2
    have hkl_ := hpt.kl
    have hxl_ := hpt.xl
    refine wp_skip ?_
    refine n_then ?_
    refine wp_seq ?_
    refine wp_block ?_
    refine wp_seq ?_
    refine rg ?_
    refine st (mvI rfl) ?_
    refine st (asI rfl) ?_
    refine rg_end ?_
    refine n_then ?_
    refine wp_seq ?_
    refine wp_seq ?_
    refine rg ?_
    refine st (y_lb hbk na66 rfl rfl) ?_
    refine st (mvI rfl) ?_
    refine st (y_ix hK.sl sl66 rfl (hpt.kl.symm) rfl (by omega) (by omega)) ?_
    refine st (y_le hK.sl na4 rfl (by omega) (by omega) rfl) ?_
    refine rg_end ?_
    refine n_then ?_
    refine cnd rfl (fun hc3 => ?_) (fun hc3 => ?_)
    ·
     try simp only [nm] at hc3
     have hpt1 := hpt.skip (by omega) hc3
     refine wp_exit ?_
     refine e_then (e_blk (?_))
     refine n_then ?_
     refine rg ?_
     refine st (y_add rfl rfl (by omega)) ?_
     refine st (mvI rfl) ?_
     refine rg_end ?_
     exact n_then ⟨(k + 1, _, _), _, rfl, same_lk rfl (same_h0), ⟨rfl, trivial⟩, ⟨hlp0, by omega, hpt1, hK, hX, hbt⟩, by first | omega | (dsimp only; omega)⟩
    ·
     try simp only [nm] at hc3
     have hkf : el Kn (k : Int) = false := hc3
     refine wp_skip ?_
     refine n_then ?_
     refine wp_seq ?_
     refine rg ?_
     refine st (y_lb hbk na66 rfl rfl) ?_
     refine st (mvI rfl) ?_
     refine st (y_ix hK.sl sl66 rfl (hpt.kl.symm) rfl (by omega) (by omega)) ?_
     refine sd0 (d_se (j := 0) (e' := true) hK sz4 rfl rfl rfl (by omega) (by omega) (Nat.le_of_ble_eq_true rfl) rfl ?_)
     intro w56 hs58 ho57 hK'
     have hrhK := hK.rng
     clear hK; have hK := hK'; clear hK'
     have hz59 := ho57.size
     replace hN := hN.out ho57 (by first | omega | (simp only [blk_some, hi1_some] at *; omega))
     replace hT := hT.out ho57 (by first | omega | (simp only [blk_some, hi1_some] at *; omega))
     replace hV := hV.out ho57 (by first | omega | (simp only [blk_some, hi1_some] at *; omega))
     replace hE := hE.step ho57 (by first | omega | (simp only [blk_some, hi1_some] at *; omega))
     replace hb3 := hb3.out ho57 (by first | omega | (simp only [blk_some, hi1_some] at *; omega))
     replace hb5 := hb5.out ho57 (by first | omega | (simp only [blk_some, hi1_some] at *; omega))
     replace hLv := hLv.out ho57 (by first | omega | (simp only [blk_some, hi1_some] at *; omega))
     replace hbk := hbk.out ho57 (by first | omega | (simp only [blk_some, hi1_some] at *; omega))
     have hrnhX := hX.rng
     replace hX := hX.out ho57 (by first | omega | (simp only [blk_some, hi1_some] at *; omega))
     replace hbt := hbt.out ho57 (by first | omega | (simp only [blk_some, hi1_some] at *; omega))
     replace hlp0 := hlp0.step ho57 (by first | omega | (simp only [blk_some, hi1_some] at *; omega))
     refine rg_end ?_
     refine n_then ?_
     refine rg ?_
     refine st (y_lbN hb3 agg26 rfl) ?_
     refine st (mvS rfl) ?_
     refine st (mvI rfl) ?_
     refine st (y_mkf rfl) ?_
     refine sc cl47 (cycles_walk_ok N A _ _ rows_ _ _ _ _ tree (k : Int) _ _ bT (bK + 1) (PotI N A vals av cv 0 w.heap.size b3 b5 bt bk bT bK (Kn.set (k : Int).toNat true) X) _ hN hok htm htl hLv hlv (by omega) (by omega) (by omega) (by omega) (by omega) (by omega) cl48 (PotI.keep (by omega) (by omega) (by omega) (by omega) (by omega) (by omega) (by omega) ) (PotI.call hok htm hc1 hbTK (by omega) (by omega) (by omega) (by omega) (by omega) ) ⟨hb3, hb5, hbt, hbk, hV, _, _, hK, hX, PotV.start (by simp [hpt.kl]) hpt.xl hpt.rng⟩) rfl ?_
     rintro v64 w60 ⟨evs, vis, Rd, rfl, hvs, hcl, ⟨hb3', hb5', hbt', hbk', hV', Kn1, X1, hK', hX', hpv⟩, ho61⟩
     clear hK hX hbt hbk
     have hK := hK'
     have hX := hX'
     have hbt := hbt'
     have hbk := hbk'
     have hpt1 := hpt.next hok hfo.a (by omega) hkf hvs hcl hpv
     have hz65 := ho61.size
     replace hN := hN.out ho61 (by first | omega | (simp only [blk_some, hi1_some] at *; omega))
     replace hT := hT.out ho61 (by first | omega | (simp only [blk_some, hi1_some] at *; omega))
     replace hV := hV.out ho61 (by first | omega | (simp only [blk_some, hi1_some] at *; omega))
     replace hE := hE.step ho61 (by first | omega | (simp only [blk_some, hi1_some] at *; omega))
     replace hb3 := hb3.out ho61 (by first | omega | (simp only [blk_some, hi1_some] at *; omega))
     replace hb5 := hb5.out ho61 (by first | omega | (simp only [blk_some, hi1_some] at *; omega))
     replace hLv := hLv.out ho61 (by first | omega | (simp only [blk_some, hi1_some] at *; omega))
     replace hlp0 := hlp0.step ho61 (by first | omega | (simp only [blk_some, hi1_some] at *; omega))
     refine rg_end ?_
     refine n_blk ?_
     refine n_then ?_
     refine rg ?_
     refine st (y_add rfl rfl (by omega)) ?_
     refine st (mvI rfl) ?_
     refine rg_end ?_
     exact n_then ⟨(k + 1, _, _), _, rfl, same_lk rfl (same_h0), ⟨rfl, trivial⟩, ⟨hlp0, by omega, hpt1, hK, hX, hbt⟩, by first | omega | (dsimp only; omega)⟩
   ·
    try simp only [nm] at hc2
    have hpo := hpt.done hok htm (by omega)
    refine wp_exit ?_
    refine e_then (e_then (e_blk (?_)))
    refine n_then ?_
    refine wp_seq ?_
    refine rg ?_
    refine st (y_lb hbt na22 rfl rfl) ?_
    refine st (asS rfl) ?_
    refine st (asI rfl) ?_
    refine rg_end ?_
    refine n_then ?_
    refine wp_ret ?_
    refine ret2 (v := (.slice _ _ _)) (v' := (.int .i64 _)) Try.results18 rfl rfl ?_
    exact ⟨_, _, X, 0, by rw [hpt.xl], Sl.wide (Ow.sl hX) (by omega) (by omega), fun h => absurd hfo h, fun _ h => (by rw [hc1] at h; cases h), fun _ _ => ⟨rfl, hpo⟩, hE⟩
end Go.Proofs.Ytdgkaahghlbocaa
