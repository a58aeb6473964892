/-
  Walks of the functions, printed by a program out of the code and the loops' relations.
-/
import Derived.Test.YtclligkngjhihaaWkE
import Derived.Test.YtclligkngjhihaaProg
import Derived.KernelRfl
import Derived.Test.YtclligkngjhihaaE7
namespace Go.Proofs.Ytclligkngjhihaa
open Go.Wk Go.RowKit
set_option linter.unusedVariables false
set_option linter.unusedSimpArgs false
theorem bld88_0_2_5_9_1 (a0_0 : Int) (d0_1 : Option Addr) (l0_1 : Nat) (c0_1 : Nat) (d0_2 : Option Addr) (l0_2 : Nat) (c0_2 : Nat) (a2 : Int) (p5 : Bool) (d9 : Option Addr) (l9 : Nat) (c9 : Nat) (d1 : Option Addr) (l1 : Nat) (c1 : Nat) (w : World) : (Instr.build 88 [(0, (.agg #[(.int .i64 a0_0), (.slice d0_1 l0_1 c0_1), (.slice d0_2 l0_2 c0_2)])), (2, (.int .i64 a2)), (5, (.bool p5)), (9, (.slice d9 l9 c9)), (1, (.slice d1 l1 c1))].toArray).run Try.prog w = .ok (.agg [(.int .i64 a0_0), (.slice d0_1 l0_1 c0_1), (.slice d0_2 l0_2 c0_2), (.slice d1 l1 c1), (.int .i64 a2), .int .i64 0, .bool false, (.bool p5), .bool false, .int .i64 0, .slice none 0 0, (.slice d9 l9 c9)].toArray) w := by kernel_rfl
theorem cl44 : Callable Try.prog 44 := ⟨Try.call44⟩
theorem cl47 : Callable Try.prog 47 := ⟨Try.call47⟩
theorem cl67 : Callable Try.prog 67 := ⟨Try.call67⟩
theorem cl75 : Callable Try.prog 75 := ⟨Try.call75⟩
set_option maxRecDepth 100000 in
theorem info4 : ∃ i, Try.prog.info? 4 = some i ∧ i.zero = some (.bool false) ∧ i.size = 1 ∧ i.bytes = 1 := ⟨Try.t4, Try.type4, rfl, rfl, rfl⟩

theorem rE_over {s : Sr} (h : rE s = 0 ∨ rE s = 14) : s.over = false := by
  cases ho : s.over with
  | false => rfl
  | true => unfold rE at h; rw [ho] at h; simp at h
theorem nsE_cases {N : Net} {B : Int} : nsE N B = 1 ∨ nsE N B = 4 ∨ nsE N B = 0 := by
  unfold nsE
  by_cases h1 : netOk N = true
  · by_cases h2 : 1 ≤ B ∧ B ≤ 1048576
    · simp [h1, h2]
    · simp [h1, h2]
  · simp [h1]
theorem fst_end {N : Net} {C : List Int} {k : Nat} {x : Bool} (hcm : CompTo N.evs.length (conB N.acts) N.evs.length C) (hk : k < N.evs.length) (h : x = true ↔ ∀ j : Nat, j < k → el C j ≠ el C k) : x = fstB (conB N.acts) k := by
  rw [Bool.eq_iff_iff, h, hcm.differs hk]
theorem fl_step {n k : Nat} {l : List Bool} {v : Bool} {f : Nat → Bool} (hl : l.length = n) (hk : k < n) (h : ∀ p : Nat, p < k → el l p = f p) (hv : v = f k) : ∀ p : Nat, p < k + 1 → el (l.set (k : Int).toNat v) p = f p := by
  intro p hp
  by_cases e : p = k
  · subst e; rw [elSetS (by omega) (by omega)]; exact hv
  · rw [elSetN (by omega) (by omega) (by omega)]; exact h p (by omega)

set_option maxHeartbeats 1000000 in
set_option maxRecDepth 100000 in
theorem ref17_newSearch_ok (N : Net) (A : NetA) (lo hi : Nat) (B : Int) (all : Bool) (w : World) (hN : NetIn lo hi w N A) (hok : NetOk N) (hB : 1 ≤ B ∧ B ≤ 1048576) : Cal Try.prog 67 [netV N A, .int .i64 B, .bool all] w (fun v w' => ∃ z bs, v = .pointer (some ⟨bs, 0, none⟩) ∧ w.heap.size ≤ z ∧ RMem z bs w' N A all B (start0 N.evs.length) ∧ Ext w w') := by
 replace hN := hN.full
 have hne := hok.ev
 have hna := hok.ac
 have hp2 := hok.p2
 have hp7 := hok.p7
 have hE : Out 0 0 w w := Out.refl _ _ w
 refine enter Try.func67 rfl Try.ntmps67 rfl ?_
 refine wp_seq ?_
 refine rg ?_
 refine sd (d_boxA rfl ?_)
 intro b3 w1 hbb3 hs3 ho2 hb3
 have hz4 := ho2.size
 replace hN := hN.ext ho2
 replace hE := hE.step ho2 (.inl (Nat.le_refl _))
 refine st (asP rfl) ?_
 refine rg_end ?_
 refine n_then ?_
 refine wp_seq ?_
 refine rg ?_
 refine st (y_lbN hb3 agg26 rfl) ?_
 refine sc cl75 (ref11_Components_ok N A _ _ _ hN) rfl ?_
 rintro v9 w5 ⟨aC, cC, C, rfl, hC, hCn, hCy, ho6⟩
 have hcm := hCy (netOk_iff.2 hok)
 have hCl := hcm.len
 have hz10 := ho6.size
 replace hN := hN.ext ho6
 replace hE := hE.step ho6 (.inl (Nat.le_refl _))
 replace hb3 := hb3.ext ho6
 refine st (asS rfl) ?_
 obtain ⟨zz, hzz⟩ : ∃ z, z = w5.heap.size := ⟨_, rfl⟩
 refine rg_end ?_
 refine n_then ?_
 refine cut (γ := Nat × Nat × Nat) [8, 13, 14, 15, 16, 17, 18, 19, 20, 21, 22, 23, 24, 25] (fun ⟨bs, bt, bf⟩ => [(8, .pointer (some ⟨bs, 0, none⟩))]) (fun ⟨bs, bt, bf⟩ w_ => Ext w5 w_ ∧ Blk w_ bs [.int .i64 N.p, .slice A.ae N.evs.length A.ce, .slice A.aa N.acts.length A.ca, .slice (some ⟨bf, 0, none⟩) N.evs.length N.evs.length, .int .i64 B, .int .i64 0, .bool false, .bool all, .bool false, .int .i64 0, .slice none 0 0, .slice (some ⟨bt, 0, none⟩) N.evs.length N.evs.length] ∧ Ow 3 encI 1 zz bs w_ (some ⟨bt, 0, none⟩) N.evs.length (List.replicate N.evs.length (0 : Int)) ∧ Ow 4 encB 1 zz bs w_ (some ⟨bf, 0, none⟩) N.evs.length  (List.replicate N.evs.length false) ∧ zz ≤ bt ∧ bt < bs ∧ zz ≤ bf ∧ bf < bs ∧ bt ≠ bf ∧ bs < w_.heap.size) ?_ ?_
 ·
  have hcut := Out.refl 0 0 w5
  refine rgP 11 (fun w_ => Ext w5 w_) (fun i => Nat.beq i 6 || Nat.beq i 10) (.step 0 (.step 1 (.step 2 (.step 3 (.step 4 (.step 5 (.step 7 (.step 8 (.step 9 (.fork 6 (.step 10 (.done)) (.fork 10 (.step 6 (.done)) (.last)))))))))))) mixed (by kernel_rfl) ?_
  intro w11 ho12 hs13
  refine ⟨ho12, ?_⟩
  have hx14 := ho12
  refine p_step rfl ?_
  refine tn rfl (fun _ hG => y_lbN (hb3.ext hG) agg26 rfl) ?_
  refine t_end ?_
  refine p_step rfl ?_
  refine tn rfl (fun _ hG => mvI rfl) ?_
  refine t_end ?_
  refine p_step rfl ?_
  refine tn rfl (fun _ hG => mvB rfl) ?_
  refine t_end ?_
  refine p_step rfl ?_
  refine tn rfl (fun _ hG => y_fld fld26_1 rfl) ?_
  refine t_end ?_
  refine p_step rfl ?_
  refine tn rfl (fun _ hG => y_lb (hb3.ext hG) na23 rfl rfl) ?_
  refine t_end ?_
  refine p_step rfl ?_
  refine tn rfl (fun _ hG => y_len Try.underlying23 rfl) ?_
  refine t_end ?_
  refine p_step rfl ?_
  refine tn rfl (fun _ hG => y_fld fld26_1 rfl) ?_
  refine t_end ?_
  refine p_step rfl ?_
  refine tn rfl (fun _ hG => y_lb (hb3.ext hG) na23 rfl rfl) ?_
  refine t_end ?_
  refine p_step rfl ?_
  refine tn rfl (fun _ hG => y_len Try.underlying23 rfl) ?_
  refine t_end ?_
  refine p_fork ?_ ?_
  ·
   refine p_step rfl ?_
   refine td rfl (d_make (m := N.evs.length) (lo := zz) (enc := encI) (e0 := (0 : Int)) sl22 info3 (fun _ => rfl) rfl rfl rfl (by omega) (by unfold maxLen; omega) (by omega) ?_)
   intro bt w15 hbbt hs17 ho16 hT
   have hx19 := hx14.step ho16 (.inl (Nat.le_refl _))
   have hz20 := ho16.size
   refine ⟨hx19, ?_⟩
   refine t_end ?_
   refine p_step rfl ?_
   refine td rfl (d_make (m := N.evs.length) (lo := zz) (enc := encB) (e0 := false) sl81 info4 (fun _ => rfl) rfl rfl rfl (by omega) (by unfold maxLen; omega) (by omega) ?_)
   intro bf w21 hbbf hs23 ho22 hF
   have hx25 := hx19.step ho22 (.inl (Nat.le_refl _))
   have hz26 := ho22.size
   replace hT := hT.ext ho22
   refine ⟨hx25, ?_⟩
   refine t_end ?_
   refine p_done ?_
   have hz27 := hx25.size
   replace hN := hN.ext hx25
   replace hE := hE.step hx25 (.inl (Nat.le_refl _))
   replace hb3 := hb3.ext hx25
   replace hC := hC.ext hx25
   replace hcut := hcut.step hx25 (.inl (Nat.le_refl _))
   refine st (y_build (bld88_0_2_5_9_1 _ _ _ _ _ _ _ _ _ _ _ _ _ _ _ _) rfl) ?_
   refine sd (d_boxA rfl ?_)
   intro bx w28 hbbx hs30 ho29 hbx
   have hz31 := ho29.size
   replace hN := hN.ext ho29
   replace hE := hE.step ho29 (.inl (Nat.le_refl _))
   replace hb3 := hb3.ext ho29
   replace hC := hC.ext ho29
   replace hcut := hcut.step ho29 (.inl (Nat.le_refl _))
   replace hT := hT.ext ho29
   replace hF := hF.ext ho29
   refine st (asP rfl) ?_
   refine rg_end ?_
   exact n_then ⟨(bx, bt, bf), _, rfl, same_lk rfl (same_rfl), ⟨rfl, trivial⟩, ⟨hcut, hbx, hT.wide (by (try dsimp only); omega), hF.wide (by (try dsimp only); omega), by (try dsimp only); omega, by (try dsimp only); omega, by (try dsimp only); omega, by (try dsimp only); omega, by (try dsimp only); omega, by (try dsimp only); omega⟩⟩
  refine p_fork ?_ ?_
  ·
   refine p_step rfl ?_
   refine td rfl (d_make (m := N.evs.length) (lo := zz) (enc := encB) (e0 := false) sl81 info4 (fun _ => rfl) rfl rfl rfl (by omega) (by unfold maxLen; omega) (by omega) ?_)
   intro bf w32 hbbf hs34 ho33 hF
   have hx36 := hx14.step ho33 (.inl (Nat.le_refl _))
   have hz37 := ho33.size
   refine ⟨hx36, ?_⟩
   refine t_end ?_
   refine p_step rfl ?_
   refine td rfl (d_make (m := N.evs.length) (lo := zz) (enc := encI) (e0 := (0 : Int)) sl22 info3 (fun _ => rfl) rfl rfl rfl (by omega) (by unfold maxLen; omega) (by omega) ?_)
   intro bt w38 hbbt hs40 ho39 hT
   have hx42 := hx36.step ho39 (.inl (Nat.le_refl _))
   have hz43 := ho39.size
   replace hF := hF.ext ho39
   refine ⟨hx42, ?_⟩
   refine t_end ?_
   refine p_done ?_
   have hz44 := hx42.size
   replace hN := hN.ext hx42
   replace hE := hE.step hx42 (.inl (Nat.le_refl _))
   replace hb3 := hb3.ext hx42
   replace hC := hC.ext hx42
   replace hcut := hcut.step hx42 (.inl (Nat.le_refl _))
   refine st (y_build (bld88_0_2_5_9_1 _ _ _ _ _ _ _ _ _ _ _ _ _ _ _ _) rfl) ?_
   refine sd (d_boxA rfl ?_)
   intro bx w45 hbbx hs47 ho46 hbx
   have hz48 := ho46.size
   replace hN := hN.ext ho46
   replace hE := hE.step ho46 (.inl (Nat.le_refl _))
   replace hb3 := hb3.ext ho46
   replace hC := hC.ext ho46
   replace hcut := hcut.step ho46 (.inl (Nat.le_refl _))
   replace hF := hF.ext ho46
   replace hT := hT.ext ho46
   refine st (asP rfl) ?_
   refine rg_end ?_
   exact n_then ⟨(bx, bt, bf), _, rfl, same_lk rfl (same_rfl), ⟨rfl, trivial⟩, ⟨hcut, hbx, hT.wide (by (try dsimp only); omega), hF.wide (by (try dsimp only); omega), by (try dsimp only); omega, by (try dsimp only); omega, by (try dsimp only); omega, by (try dsimp only); omega, by (try dsimp only); omega, by (try dsimp only); omega⟩⟩
  exact p_last
 ·
  rintro ⟨bs, bt, bf⟩ hav_ w49 ⟨ho50, hbs, hT, hF, d1, d2, d3, d4, d5, d6⟩
  have hz51 := ho50.size
  replace hN := hN.ext ho50
  replace hE := hE.step ho50 (.inl (Nat.le_refl _))
  replace hb3 := hb3.ext ho50
  replace hC := hC.ext ho50
  refine wp_seq ?_
  refine wp_seq ?_
  refine rg ?_
  refine st (mvS rfl) ?_
  refine st (y_len Try.underlying22 rfl) ?_
  refine st (mvI rfl) ?_
  refine rg_end ?_
  refine n_then ?_
  refine wp_block ?_
  refine lp (γ := Nat × List Bool) [9, 10, 28, 29, 30, 31, 32, 33, 34, 35, 36, 37, 38, 39, 40, 41, 42, 43, 44, 45, 46, 47, 48, 49, 50, 51, 52, 53, 54, 55, 56, 57] (fun ⟨k, Fl⟩ => [(28, .int .i64 (k : Int))]) (fun ⟨k, Fl⟩ w_ => Out bf (bf + 1) w49 w_ ∧ (k : Int) ≤ C.length ∧ Fl.length = N.evs.length ∧ (∀ p : Nat, p < k → el Fl p = fstB (conB N.acts) p) ∧ Ow 4 encB 1 zz bs w_ (some ⟨bf, 0, none⟩) N.evs.length  Fl) (fun ⟨k, Fl⟩ => C.length - k) (0, List.replicate N.evs.length false) ⟨rfl, trivial⟩ ⟨Out.refl _ _ _, by simp, by simp, (fun p hp => by omega), hF⟩ ?_
  rintro ⟨k, Fl⟩ hav_ w52 ⟨ho53, hk, hFl, hFv, hF⟩
  have hlp0 := ho53
  have hz54 := ho53.size
  replace hN := hN.out ho53 (by first | omega | (simp only [blk_some, hi1_some] at *; omega))
  replace hE := hE.step ho53 (by first | omega | (simp only [blk_some, hi1_some] at *; omega))
  replace hb3 := hb3.out ho53 (by first | omega | (simp only [blk_some, hi1_some] at *; omega))
  replace hC := hC.out ho53 (by first | omega | (simp only [blk_some, hi1_some] at *; omega))
  replace hbs := hbs.out ho53 (by first | omega | (simp only [blk_some, hi1_some] at *; omega))
  have hrnhT := hT.rng
  replace hT := hT.out ho53 (by first | omega | (simp only [blk_some, hi1_some] at *; omega))
  refine wp_seq ?_
  refine rg ?_
  refine st (y_lss rfl rfl) ?_
  refine rg_end ?_
  refine n_then ?_
  refine wp_seq ?_
  refine cnd rfl (fun hc0 => ?_) (fun hc0 => ?_)
  ·
   try simp only [nm] at hc0
   refine wp_skip ?_
   refine n_then ?_
   refine wp_seq ?_
   refine wp_block ?_
   refine wp_seq ?_
   refine rg ?_
   refine st (mvI rfl) ?_
   refine st (asI rfl) ?_
   refine rg_end ?_
   refine n_then ?_
   refine wp_seq ?_
   refine rg ?_
   refine st (mvP rfl) ?_
   refine st (y_nil rfl) ?_
   refine st (y_fld fld88_1 rfl) ?_
   refine st (y_lb hbs na81 rfl rfl) ?_
   refine st (mvI rfl) ?_
   refine st (y_ix hF.sl sl81 rfl (hFl.symm) rfl (by omega) (by omega)) ?_
   refine sd0 (d_se (j := 0) (e' := true) hF sz4 rfl rfl rfl (by omega) (by omega) (Nat.le_of_ble_eq_true rfl) rfl ?_)
   intro w55 hs57 ho56 hF'
   have hrhF := hF.rng
   clear hF; have hF := hF'; clear hF'
   have hz58 := ho56.size
   replace hN := hN.out ho56 (by first | omega | (simp only [blk_some, hi1_some] at *; omega))
   replace hE := hE.step ho56 (by first | omega | (simp only [blk_some, hi1_some] at *; omega))
   replace hb3 := hb3.out ho56 (by first | omega | (simp only [blk_some, hi1_some] at *; omega))
   replace hC := hC.out ho56 (by first | omega | (simp only [blk_some, hi1_some] at *; omega))
   replace hbs := hbs.out ho56 (by first | omega | (simp only [blk_some, hi1_some] at *; omega))
   replace hT := hT.out ho56 (by first | omega | (simp only [blk_some, hi1_some] at *; omega))
   replace hlp0 := hlp0.step ho56 (by first | omega | (simp only [blk_some, hi1_some] at *; omega))
   refine rg_end ?_
   refine n_then ?_
   refine wp_seq ?_
   refine rg ?_
   refine st (asI rfl) ?_
   refine rg_end ?_
   refine n_then ?_
   refine wp_block ?_
   refine lp (γ := Nat × Bool) [10, 37, 38, 39, 40, 41, 42, 43, 44, 45, 46, 47, 48, 49, 50, 51, 52, 53, 54, 55, 56] (fun ⟨q, x⟩ => [(10, .int .i64 (q : Int))]) (fun ⟨q, x⟩ w_ => Out bf (bf + 1) w55 w_ ∧ q ≤ k ∧ (x = true ↔ ∀ j : Nat, j < q → el C j ≠ el C k) ∧ Ow 4 encB 1 zz bs w_ (some ⟨bf, 0, none⟩) N.evs.length  (Fl.set (k : Int).toNat x)) (fun ⟨q, x⟩ => k - q) (0, true) ⟨rfl, trivial⟩ ⟨Out.refl _ _ _, by omega, ⟨fun _ j hj => by omega, fun _ => rfl⟩, hF⟩ ?_
   rintro ⟨q, x⟩ hav_ w59 ⟨ho60, hq, hxx, hF⟩
   have hlp1 := ho60
   have hz61 := ho60.size
   replace hN := hN.out ho60 (by first | omega | (simp only [blk_some, hi1_some] at *; omega))
   replace hE := hE.step ho60 (by first | omega | (simp only [blk_some, hi1_some] at *; omega))
   replace hb3 := hb3.out ho60 (by first | omega | (simp only [blk_some, hi1_some] at *; omega))
   replace hC := hC.out ho60 (by first | omega | (simp only [blk_some, hi1_some] at *; omega))
   replace hbs := hbs.out ho60 (by first | omega | (simp only [blk_some, hi1_some] at *; omega))
   replace hT := hT.out ho60 (by first | omega | (simp only [blk_some, hi1_some] at *; omega))
   replace hlp0 := hlp0.step ho60 (by first | omega | (simp only [blk_some, hi1_some] at *; omega))
   refine wp_seq ?_
   refine wp_seq ?_
   refine rg ?_
   refine st (mvI rfl) ?_
   refine st (mvI rfl) ?_
   refine st (y_lss rfl rfl) ?_
   refine rg_end ?_
   refine n_then ?_
   refine cnd rfl (fun hc1 => ?_) (fun hc1 => ?_)
   ·
    try simp only [nm] at hc1
    refine wp_skip ?_
    refine n_then ?_
    refine wp_seq ?_
    refine wp_block ?_
    refine wp_seq ?_
    refine rgD 8 (fun w_ => Ext w59 w_) (fun i => false) mixed (by kernel_rfl) ?_
    intro w62 ho63 hs64
    refine ⟨ho63, ?_⟩
    have hx65 := ho63
    refine tn rfl (fun _ hG => mvS rfl) ?_
    refine tn rfl (fun _ hG => mvI rfl) ?_
    refine tn rfl (fun _ hG => y_ix (hC.ext hG) sl22 rfl (rfl) rfl (by omega) (by omega)) ?_
    refine tn rfl (fun _ hG => y_le (hC.ext hG) na3 rfl (by omega) (by omega) rfl) ?_
    refine tn rfl (fun _ hG => mvS rfl) ?_
    refine tn rfl (fun _ hG => mvI rfl) ?_
    refine tn rfl (fun _ hG => y_ix (hC.ext hG) sl22 rfl (rfl) rfl (by omega) (by omega)) ?_
    refine tn rfl (fun _ hG => y_le (hC.ext hG) na3 rfl (by omega) (by omega) rfl) ?_
    refine t_end ?_
    have hz66 := hx65.size
    replace hN := hN.ext hx65
    replace hE := hE.step hx65 (.inl (Nat.le_refl _))
    replace hb3 := hb3.ext hx65
    replace hC := hC.ext hx65
    replace hbs := hbs.ext hx65
    replace hT := hT.ext hx65
    replace hlp0 := hlp0.step hx65 (.inl (Nat.le_refl _))
    replace hF := hF.ext hx65
    replace hlp1 := hlp1.step hx65 (.inl (Nat.le_refl _))
    refine st (y_eql rfl rfl) ?_
    refine rg_end ?_
    refine n_then ?_
    refine cnd rfl (fun hc2 => ?_) (fun hc2 => ?_)
    ·
     try simp only [nm] at hc2
     have hxx1 : false = true ↔ ∀ j : Nat, j < q + 1 → el C j ≠ el C k := ⟨fun h => (by cases h), fun h => absurd hc2 (h q (by omega))⟩
     refine rg ?_
     refine st (mvP rfl) ?_
     refine st (y_nil rfl) ?_
     refine st (y_fld fld88_1 rfl) ?_
     refine st (y_lb hbs na81 rfl rfl) ?_
     refine st (mvI rfl) ?_
     refine st (y_ix hF.sl sl81 rfl (by simp; omega) rfl (by omega) (by simp; omega)) ?_
     refine sd0 (d_se (j := 0) (e' := false) hF sz4 rfl rfl rfl (by omega) (by simp; omega) (Nat.le_of_ble_eq_true rfl) rfl ?_)
     intro w67 hs69 ho68 hF'
     have hrhF := hF.rng
     clear hF; have hF := hF'; clear hF'
     have hz70 := ho68.size
     replace hN := hN.out ho68 (by first | omega | (simp only [blk_some, hi1_some] at *; omega))
     replace hE := hE.step ho68 (by first | omega | (simp only [blk_some, hi1_some] at *; omega))
     replace hb3 := hb3.out ho68 (by first | omega | (simp only [blk_some, hi1_some] at *; omega))
     replace hC := hC.out ho68 (by first | omega | (simp only [blk_some, hi1_some] at *; omega))
     replace hbs := hbs.out ho68 (by first | omega | (simp only [blk_some, hi1_some] at *; omega))
     replace hT := hT.out ho68 (by first | omega | (simp only [blk_some, hi1_some] at *; omega))
     replace hlp0 := hlp0.step ho68 (by first | omega | (simp only [blk_some, hi1_some] at *; omega))
     replace hlp1 := hlp1.step ho68 (by first | omega | (simp only [blk_some, hi1_some] at *; omega))
     rw [List.set_set] at hF
     refine rg_end ?_
     refine n_blk ?_
     refine n_then ?_
     refine rg ?_
     refine st (mvI rfl) ?_
     refine st (y_add rfl rfl (by omega)) ?_
     refine st (asI rfl) ?_
     refine rg_end ?_
     exact n_then ⟨(q + 1, _), _, rfl, same_lk rfl (same_h0), ⟨rfl, trivial⟩, ⟨hlp1, by omega, hxx1, hF⟩, by first | omega | (dsimp only; omega)⟩
    ·
     try simp only [nm] at hc2
     have hxx1 : x = true ↔ ∀ j : Nat, j < q + 1 → el C j ≠ el C k := by
       rw [hxx]
       constructor
       · intro h j hj
         by_cases e : j = q
         · subst e; exact hc2
         · exact h j (by omega)
       · intro h j hj; exact h j (by omega)
     refine wp_skip ?_
     refine n_blk ?_
     refine n_then ?_
     refine rg ?_
     refine st (mvI rfl) ?_
     refine st (y_add rfl rfl (by omega)) ?_
     refine st (asI rfl) ?_
     refine rg_end ?_
     exact n_then ⟨(q + 1, _), _, rfl, same_lk rfl (same_h0), ⟨rfl, trivial⟩, ⟨hlp1, by omega, hxx1, hF⟩, by first | omega | (dsimp only; omega)⟩
   ·
    try simp only [nm] at hc1
    have hqk : k = q := by omega
    subst hqk
    have hfe := fst_end hcm (by omega) hxx
    refine wp_exit ?_
    refine e_then (e_then (e_blk (?_)))
    refine n_blk ?_
    refine n_then ?_
    refine rg ?_
    refine st (y_add rfl rfl (by omega)) ?_
    refine st (mvI rfl) ?_
    refine rg_end ?_
    exact n_then ⟨(k + 1, _), _, rfl, same_lk rfl (same_hav rfl (same_lk rfl (same_h0))), ⟨rfl, trivial⟩, ⟨hlp0, by omega, by simp [hFl], fl_step hFl (by omega) hFv hfe, hF⟩, by first | omega | (dsimp only; omega)⟩
  ·
   try simp only [nm] at hc0
   refine wp_exit ?_
   refine e_then (e_then (e_blk (?_)))
   refine n_then ?_
   refine wp_seq ?_
   refine rg ?_
   refine st (mvP rfl) ?_
   refine st (asP rfl) ?_
   refine rg_end ?_
   refine n_then ?_
   refine wp_ret ?_
   refine ret1 (v := (.pointer _)) Try.results67 rfl ?_
   exact ⟨zz, bs, rfl, by omega, ⟨bt, bf, none, 0, Fl, by simpa [start0, usedR] using hbs, hF, hFl, fun p hp => hFv p (by omega), by simpa [start0] using hT, SInv.start hok.p2 hB.1 hB.2, nilI _ _ _, d1, d2, d3, d4, d5, by omega⟩, hE⟩

set_option maxHeartbeats 1000000 in
set_option maxRecDepth 100000 in
theorem ref17_run_ok (N : Net) (A : NetA) (lo hi : Nat) (B : Int) (all : Bool) (w : World) (hN : NetIn lo hi w N A)  : Cal Try.prog 47 [netV N A, .int .i64 B, .bool all] w (fun v w' => ∃ p e, v = .tuple #[.pointer p, .int .i64 e] ∧ e = findE N all B ∧ (e = 0 ∨ e = 14 → ∃ z bs, p = some ⟨bs, 0, none⟩ ∧ w.heap.size ≤ z ∧ RMem z bs w' N A all B (findS N all B)) ∧ Ext w w') := by
 replace hN := hN.full
 have hE : Out 0 0 w w := Out.refl _ _ w
 refine enter Try.func47 rfl Try.ntmps47 rfl ?_
 refine wp_seq ?_
 refine rg ?_
 refine sd (d_boxA rfl ?_)
 intro b3 w1 hbb3 hs3 ho2 hb3
 have hz4 := ho2.size
 replace hN := hN.ext ho2
 replace hE := hE.step ho2 (.inl (Nat.le_refl _))
 refine st (asP rfl) ?_
 refine st (asI rfl) ?_
 refine rg_end ?_
 refine n_then ?_
 refine wp_seq ?_
 refine wp_seq ?_
 refine rg ?_
 refine st (y_lbN hb3 agg26 rfl) ?_
 refine sc cl45 (ref11_Check_ok N A _ _ _ hN) rfl ?_
 rintro v9 w5 ⟨rfl, ho6⟩
 have hz10 := ho6.size
 replace hN := hN.ext ho6
 replace hE := hE.step ho6 (.inl (Nat.le_refl _))
 replace hb3 := hb3.ext ho6
 refine st (y_not rfl) ?_
 refine rg_end ?_
 refine n_then ?_
 refine cnd rfl (fun hc0 => ?_) (fun hc0 => ?_)
 ·
  try simp only [nm] at hc0
  have he : findE N all B = 1 := by unfold findE; rw [if_neg (by rw [hc0]; decide)]
  refine wp_seq ?_
  refine rg ?_
  refine st (asP rfl) ?_
  refine st (asI rfl) ?_
  refine rg_end ?_
  refine n_then ?_
  refine wp_ret ?_
  refine r_then (ret2 (v := (.pointer _)) (v' := (.int .i64 _)) Try.results47 rfl rfl ?_)
  exact ⟨none, 1, rfl, he.symm, (fun h => by omega), hE⟩
 ·
  try simp only [nm] at hc0
  have hok := netOk_iff.1 hc0
  refine wp_skip ?_
  refine n_then ?_
  refine wp_seq ?_
  refine wp_seq ?_
  refine rg ?_
  refine st (mvI rfl) ?_
  refine sc cl44 (ref17_in_ok _ _ _ _) rfl ?_
  rintro v15 w11 ⟨rfl, ho12⟩
  have hz16 := ho12.size
  replace hN := hN.ext ho12
  replace hE := hE.step ho12 (.inl (Nat.le_refl _))
  replace hb3 := hb3.ext ho12
  refine st (y_not rfl) ?_
  refine rg_end ?_
  refine n_then ?_
  refine cnd rfl (fun hc1 => ?_) (fun hc1 => ?_)
  ·
   try simp only [nm] at hc1
   have he : findE N all B = 4 := by unfold findE; rw [if_pos hc0, if_neg hc1]
   refine wp_seq ?_
   refine rg ?_
   refine st (asP rfl) ?_
   refine st (asI rfl) ?_
   refine rg_end ?_
   refine n_then ?_
   refine wp_ret ?_
   refine r_then (ret2 (v := (.pointer _)) (v' := (.int .i64 _)) Try.results47 rfl rfl ?_)
   exact ⟨none, 4, rfl, he.symm, (fun h => by omega), hE⟩
  ·
   try simp only [nm] at hc1
   obtain ⟨_, _, hfe⟩ := fE_ok (N := N) (all := all) (B := B) (by unfold nsE; rw [if_pos hc0, if_pos hc1])
   refine wp_skip ?_
   refine n_then ?_
   refine wp_seq ?_
   refine rg ?_
   refine st (y_lbN hb3 agg26 rfl) ?_
   refine st (mvI rfl) ?_
   refine st (mvB rfl) ?_
   refine sc cl67 (ref17_newSearch_ok N A _ _ B all _ hN hok hc1) rfl ?_
   rintro v21 w17 ⟨z, bs, rfl, hz0, hM, ho18⟩
   have hz22 := ho18.size
   replace hN := hN.ext ho18
   replace hE := hE.step ho18 (.inl (Nat.le_refl _))
   replace hb3 := hb3.ext ho18
   refine st (asP rfl) ?_
   refine rg_end ?_
   refine n_then ?_
   refine wp_seq ?_
   refine rg ?_
   refine st (mvP rfl) ?_
   refine sc cl68 (ref17_visit_ok N A _ _ z bs all B hok (by omega) N.evs.length 0 (start0 N.evs.length) _ hN hM (by omega) rfl (OkTo.zero _ _ hok)) rfl ?_
   rintro v27 w23 ⟨rfl, hM2, ho24⟩
   obtain ⟨bt, bf, ar, cr, Fl, hbs, hF, hFl, hFv, hT, hsi, hres, d1, d2, d3, d4, d5, d6⟩ := hM2.ex
   have hz28 := ho24.size
   replace hN := hN.out ho24 (by first | omega | (simp only [blk_some, hi1_some] at *; omega))
   replace hE := hE.step ho24 (by first | omega | (simp only [blk_some, hi1_some] at *; omega))
   replace hb3 := hb3.out ho24 (by first | omega | (simp only [blk_some, hi1_some] at *; omega))
   refine rg_end ?_
   refine n_then ?_
   refine wp_seq ?_
   refine wp_block ?_
   refine wp_seq ?_
   refine rg ?_
   refine st (mvP rfl) ?_
   refine st (y_nil rfl) ?_
   refine st (y_fld fld88_4 rfl) ?_
   refine st (y_lb hbs na4 rfl rfl) ?_
   refine st (asB rfl) ?_
   refine rg_end ?_
   refine n_then ?_
   refine cnd rfl (fun hc2 => ?_) (fun hc2 => ?_)
   ·
    try simp only [nm] at hc2
    have he : findE N all B = 15 := hfe.trans (by unfold rE; exact if_pos hc2)
    refine wp_seq ?_
    refine rg ?_
    refine st (asP rfl) ?_
    refine st (asI rfl) ?_
    refine rg_end ?_
    refine n_then ?_
    refine wp_ret ?_
    refine r_blk (r_then (ret2 (v := (.pointer _)) (v' := (.int .i64 _)) Try.results47 rfl rfl ?_))
    exact ⟨none, 15, rfl, he.symm, (fun h => by omega), hE⟩
   ·
    try simp only [nm] at hc2
    refine wp_seq ?_
    refine rg ?_
    refine st (mvP rfl) ?_
    refine st (y_nil rfl) ?_
    refine st (y_fld fld88_6 rfl) ?_
    refine st (y_lb hbs na4 rfl rfl) ?_
    refine st (y_not rfl) ?_
    refine st (asB rfl) ?_
    refine rg_end ?_
    refine n_then ?_
    refine cnd rfl (fun hc3 => ?_) (fun hc3 => ?_)
    ·
     try simp only [nm] at hc3
     have he : findE N all B = 14 := hfe.trans (by unfold rE; rw [if_neg (show ¬ (findS N all B).over = true by rw [show (findS N all B).over = false from hc2]; decide)]; exact if_pos hc3)
     refine wp_seq ?_
     refine rg ?_
     refine st (mvP rfl) ?_
     refine st (asP rfl) ?_
     refine st (asI rfl) ?_
     refine rg_end ?_
     refine n_then ?_
     refine wp_ret ?_
     refine r_blk (r_then (ret2 (v := (.pointer _)) (v' := (.int .i64 _)) Try.results47 rfl rfl ?_))
     exact ⟨_, 14, rfl, he.symm, (fun _ => ⟨z, bs, rfl, by omega, hM2⟩), hE⟩
    ·
     try simp only [nm] at hc3
     have he : findE N all B = 0 := hfe.trans (by unfold rE; rw [if_neg (show ¬ (findS N all B).over = true by rw [show (findS N all B).over = false from hc2]; decide)]; exact if_neg (by rw [show (findS N all B).found = true from hc3]; decide))
     refine wp_skip ?_
     refine n_blk ?_
     refine n_then ?_
     refine wp_seq ?_
     refine rg ?_
     refine st (mvP rfl) ?_
     refine st (asP rfl) ?_
     refine st (asI rfl) ?_
     refine rg_end ?_
     refine n_then ?_
     refine wp_ret ?_
     refine ret2 (v := (.pointer _)) (v' := (.int .i64 _)) Try.results47 rfl rfl ?_
     exact ⟨_, 0, rfl, he.symm, (fun _ => ⟨z, bs, rfl, by omega, hM2⟩), hE⟩

set_option maxRecDepth 100000 in
theorem ref17_Feasible_ok (N : Net) (A : NetA) (lo hi : Nat) (B : Int) (w : World) (hN : NetIn lo hi w N A)  : Cal Try.prog 25 [netV N A, .int .i64 B] w (fun v w' => ∃ at_ ct, v = .tuple #[.slice at_ (findT N false B).length ct, .int .i64 (findU N false B), .int .i64 (findE N false B)] ∧ Ints w.heap.size w'.heap.size w' at_ (findT N false B) ∧ Ext w w') := by
 replace hN := hN.full
 have hE : Out 0 0 w w := Out.refl _ _ w
 refine enter Try.func25 rfl Try.ntmps25 rfl ?_
 refine wp_seq ?_
 refine rg ?_
 refine sd (d_boxA rfl ?_)
 intro b2 w1 hbb2 hs3 ho2 hb2
 have hz4 := ho2.size
 replace hN := hN.ext ho2
 replace hE := hE.step ho2 (.inl (Nat.le_refl _))
 refine st (asS rfl) ?_
 refine st (asI rfl) ?_
 refine st (asI rfl) ?_
 refine rg_end ?_
 refine n_then ?_
 refine wp_seq ?_
 refine rg ?_
 refine st (y_lbN hb2 agg26 rfl) ?_
 refine st (mvI rfl) ?_
 refine sc cl47 (ref17_run_ok N A _ _ B false _ hN) rfl ?_
 rintro v9 w5 ⟨p, e, rfl, he, hp, ho6⟩
 have hz10 := ho6.size
 replace hN := hN.ext ho6
 replace hE := hE.step ho6 (.inl (Nat.le_refl _))
 replace hb2 := hb2.ext ho6
 refine st (mvT rfl) ?_
 refine st (y_ext rfl rfl) ?_
 refine st (y_ext rfl rfl) ?_
 refine st (asP rfl) ?_
 refine st (asI rfl) ?_
 refine rg_end ?_
 refine n_then ?_
 refine wp_seq ?_
 refine wp_seq ?_
 refine rg ?_
 refine st (mvI rfl) ?_
 refine rg_end ?_
 refine n_then ?_
 refine wp_block ?_
 refine wp_seq ?_
 refine rg ?_
 refine st (y_eql rfl rfl) ?_
 refine st (asB rfl) ?_
 refine rg_end ?_
 refine n_then ?_
 refine cnd rfl (fun hc0 => ?_) (fun hc0 => ?_)
 ·
  try simp only [nm] at hc0
  obtain ⟨z, bs, rfl, hz0, hM⟩ := hp (.inl hc0)
  obtain ⟨bt, bf, ar, cr, Fl, hbs, hF, hFl, hFv, hT, hsi, hres, d1, d2, d3, d4, d5, d6⟩ := hM.ex
  obtain ⟨g1, g2, g3⟩ := find0 (he.symm.trans hc0)
  obtain ⟨_, _, hfe⟩ := fE_ok (N := N) (all := false) (B := B) (by apply Classical.byContradiction; intro h; have := (fE_err (all := false) h).1; rw [← he, hc0] at this; exact h this.symm)
  have hus := usedR_no (rE_over (.inl (hfe.symm.trans (he.symm.trans hc0))))
  refine wp_seq ?_
  refine rgD 9 (fun w_ => Ext w5 w_) (fun i => false) mixed (by kernel_rfl) ?_
  intro w11 ho12 hs13
  refine ⟨ho12, ?_⟩
  have hx14 := ho12
  refine tn rfl (fun _ hG => mvP rfl) ?_
  refine tn rfl (fun _ hG => y_nil rfl) ?_
  refine tn rfl (fun _ hG => y_fld fld88_8 rfl) ?_
  refine tn rfl (fun _ hG => y_lb (hbs.ext hG) na22 rfl rfl) ?_
  refine tn rfl (fun _ hG => mvP rfl) ?_
  refine tn rfl (fun _ hG => y_nil rfl) ?_
  refine tn rfl (fun _ hG => y_fld fld88_3 rfl) ?_
  refine tn rfl (fun _ hG => y_lb (hbs.ext hG) na3 rfl rfl) ?_
  refine tn rfl (fun _ hG => asS rfl) ?_
  refine t_end ?_
  have hz15 := hx14.size
  replace hN := hN.ext hx14
  replace hE := hE.step hx14 (.inl (Nat.le_refl _))
  replace hb2 := hb2.ext hx14
  replace hbs := hbs.ext hx14
  replace hF := hF.ext hx14
  replace hT := hT.ext hx14
  replace hres := hres.ext hx14
  refine st (asI rfl) ?_
  refine st (asI rfl) ?_
  refine rg_end ?_
  refine n_then ?_
  refine wp_ret ?_
  refine r_blk (r_then (ret3 (v := (.slice _ _ _)) (v' := (.int .i64 _)) (v'' := (.int .i64 _)) Try.results25 rfl rfl rfl ?_))
  rw [g1, g3, ← he]
  exact ⟨ar, cr, by rw [hus, hc0], Sl.wide hres (by omega) (by omega), hE⟩
 ·
  try simp only [nm] at hc0
  refine wp_seq ?_
  refine rg ?_
  refine st (y_eql rfl rfl) ?_
  refine st (asB rfl) ?_
  refine rg_end ?_
  refine n_then ?_
  refine cnd rfl (fun hc1 => ?_) (fun hc1 => ?_)
  ·
   try simp only [nm] at hc1
   obtain ⟨z, bs, rfl, hz0, hM⟩ := hp (.inr hc1)
   obtain ⟨bt, bf, ar, cr, Fl, hbs, hF, hFl, hFv, hT, hsi, hres, d1, d2, d3, d4, d5, d6⟩ := hM.ex
   obtain ⟨g1, g2, g3⟩ := find14 (he.symm.trans hc1)
   obtain ⟨_, _, hfe⟩ := fE_ok (N := N) (all := false) (B := B) (by apply Classical.byContradiction; intro h; have q := (fE_err (all := false) h).1; have q2 : nsE N B = 1 ∨ nsE N B = 4 ∨ nsE N B = 0 := nsE_cases; omega)
   have hus := usedR_no (rE_over (.inr (hfe.symm.trans (he.symm.trans hc1))))
   refine wp_seq ?_
   refine rgD 7 (fun w_ => Ext w5 w_) (fun i => false) mixed (by kernel_rfl) ?_
   intro w16 ho17 hs18
   refine ⟨ho17, ?_⟩
   have hx19 := ho17
   refine tn rfl (fun _ hG => mvP rfl) ?_
   refine tn rfl (fun _ hG => y_nil rfl) ?_
   refine tn rfl (fun _ hG => y_fld fld88_3 rfl) ?_
   refine tn rfl (fun _ hG => y_lb (hbs.ext hG) na3 rfl rfl) ?_
   refine tn rfl (fun _ hG => mvI rfl) ?_
   refine tn rfl (fun _ hG => asS rfl) ?_
   refine tn rfl (fun _ hG => asI rfl) ?_
   refine t_end ?_
   have hz20 := hx19.size
   replace hN := hN.ext hx19
   replace hE := hE.step hx19 (.inl (Nat.le_refl _))
   replace hb2 := hb2.ext hx19
   replace hbs := hbs.ext hx19
   replace hF := hF.ext hx19
   replace hT := hT.ext hx19
   replace hres := hres.ext hx19
   refine st (asI rfl) ?_
   refine rg_end ?_
   refine n_then ?_
   refine wp_ret ?_
   refine r_blk (r_then (ret3 (v := (.slice _ _ _)) (v' := (.int .i64 _)) (v'' := (.int .i64 _)) Try.results25 rfl rfl rfl ?_))
   rw [g1, g3, ← he]
   exact ⟨none, 0, by rw [hus]; rfl, nilI _ _ _, hE⟩
  ·
   try simp only [nm] at hc1
   obtain ⟨g1, g2, g3⟩ := find15 (fun h => hc0 (he.trans h)) (fun h => hc1 (he.trans h))
   refine wp_skip ?_
   refine n_blk ?_
   refine n_then ?_
   refine wp_seq ?_
   refine rg ?_
   refine st (mvI rfl) ?_
   refine st (asS rfl) ?_
   refine st (asI rfl) ?_
   refine st (asI rfl) ?_
   refine rg_end ?_
   refine n_then ?_
   refine wp_ret ?_
   refine ret3 (v := (.slice _ _ _)) (v' := (.int .i64 _)) (v'' := (.int .i64 _)) Try.results25 rfl rfl rfl ?_
   rw [g1, g3, ← he]
   exact ⟨none, 0, rfl, nilI _ _ _, hE⟩
end Go.Proofs.Ytclligkngjhihaa
