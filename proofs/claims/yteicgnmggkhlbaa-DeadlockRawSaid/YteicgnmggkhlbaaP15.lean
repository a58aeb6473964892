/-
  Walks of the functions, printed by a program out of the code and the loops' relations.
-/
import Derived.Test.YteicgnmggkhlbaaWkG
import Derived.Test.YteicgnmggkhlbaaProg
import Derived.KernelRfl
import Derived.Test.YteicgnmggkhlbaaP14
namespace Go.Proofs.Yteicgnmggkhlbaa
open Go.Wk Go.RowKit
set_option linter.unusedVariables false
set_option linter.unusedSimpArgs false
theorem bld44_0 (a0 : Int) (w : World) : (Instr.build 44 [(0, (.int .i64 a0))].toArray).run Try.prog w = .ok (.agg [(.int .i64 a0), .slice none 0 0, .int .i64 0, .int .i64 0].toArray) w := by kernel_rfl
theorem bsl22_2 (a0 : Int) (a1 : Int) (w : World) : (Instr.buildSlice 22 2 [(0, (.int .i64 a0)), (1, (.int .i64 a1))].toArray).run Try.prog w = .ok (.slice (some ⟨w.heap.size, 0, none⟩) 2 2) (w.alloc (.cells [(.int .i64 a0), (.int .i64 a1)].toArray 3)) := by kernel_rfl
theorem bsl22_5 (a0 : Int) (a1 : Int) (a2 : Int) (a3 : Int) (a4 : Int) (w : World) : (Instr.buildSlice 22 5 [(0, (.int .i64 a0)), (1, (.int .i64 a1)), (2, (.int .i64 a2)), (3, (.int .i64 a3)), (4, (.int .i64 a4))].toArray).run Try.prog w = .ok (.slice (some ⟨w.heap.size, 0, none⟩) 5 5) (w.alloc (.cells [(.int .i64 a0), (.int .i64 a1), (.int .i64 a2), (.int .i64 a3), (.int .i64 a4)].toArray 3)) := by kernel_rfl
theorem bsl23_2 (d0 : Option Addr) (l0 : Nat) (c0 : Nat) (d1 : Option Addr) (l1 : Nat) (c1 : Nat) (w : World) : (Instr.buildSlice 23 2 [(0, (.slice d0 l0 c0)), (1, (.slice d1 l1 c1))].toArray).run Try.prog w = .ok (.slice (some ⟨w.heap.size, 0, none⟩) 2 2) (w.alloc (.cells [(.slice d0 l0 c0), (.slice d1 l1 c1)].toArray 35)) := by kernel_rfl
theorem bsl35_2 (a0_0 : Int) (d0_1 : Option Addr) (l0_1 : Nat) (c0_1 : Nat) (a0_2 : Int) (a0_3 : Int) (a1_0 : Int) (d1_1 : Option Addr) (l1_1 : Nat) (c1_1 : Nat) (a1_2 : Int) (a1_3 : Int) (w : World) : (Instr.buildSlice 35 2 [(0, (.agg #[(.int .i64 a0_0), (.slice d0_1 l0_1 c0_1), (.int .i64 a0_2), (.int .i64 a0_3)])), (1, (.agg #[(.int .i64 a1_0), (.slice d1_1 l1_1 c1_1), (.int .i64 a1_2), (.int .i64 a1_3)]))].toArray).run Try.prog w = .ok (.slice (some ⟨w.heap.size, 0, none⟩) 2 2) (w.alloc (.cells [(.int .i64 a0_0), (.slice d0_1 l0_1 c0_1), (.int .i64 a0_2), (.int .i64 a0_3), (.int .i64 a1_0), (.slice d1_1 l1_1 c1_1), (.int .i64 a1_2), (.int .i64 a1_3)].toArray 44)) := by kernel_rfl
theorem cl27 : Callable Try.prog 27 := ⟨Try.call27⟩
theorem cl28 : Callable Try.prog 28 := ⟨Try.call28⟩
theorem zerR52 : ZeroOf Try.prog 52 (.agg (List.replicate 8 (Value.bool false)).toArray) := fun w => by kernel_rfl
theorem zerC52 : ((List.replicate 8 (Value.bool false)).toArray).toList = (List.replicate 8 (false)).flatMap encB := by kernel_rfl

theorem at_snoc {rows : List Pw} {x : List Int} {k : Nat} {v : Int} (hl : x.length = k) (h : ∀ i : Nat, i < k → -1 ≤ el x (i : Int) ∧ el x (i : Int) ≤ (el rows (i : Int)).st.length) (hv : -1 ≤ v ∧ v ≤ (el rows (k : Int)).st.length) : (x ++ [v]).length = k + 1 ∧ ∀ i : Nat, i < k + 1 → -1 ≤ el (x ++ [v]) (i : Int) ∧ el (x ++ [v]) (i : Int) ≤ (el rows (i : Int)).st.length := by
  refine ⟨by simp [hl], fun i hi => ?_⟩
  by_cases e : i = k
  · subst e; rw [← hl, el_appE]; rw [hl]; exact hv
  · rw [el_app1 (by omega) (by omega)]; exact h i (by omega)
/-- The example's paths. -/
def exR (a b : Option Addr) : List Pw := [⟨a, 2, [⟨1, none, 0, [], 0, 0⟩, ⟨2, none, 0, [], 0, 0⟩]⟩, ⟨b, 2, [⟨2, none, 0, [], 0, 0⟩, ⟨1, none, 0, [], 0, 0⟩]⟩]
theorem ex_sm (a b : Option Addr) : SmP (exR a b) := by
  refine ⟨by simp [exR], by simp [exR], fun r hr => ?_⟩
  have hr' : r = ⟨a, 2, [⟨1, none, 0, [], 0, 0⟩, ⟨2, none, 0, [], 0, 0⟩]⟩ ∨ r = ⟨b, 2, [⟨2, none, 0, [], 0, 0⟩, ⟨1, none, 0, [], 0, 0⟩]⟩ := by simpa [exR] using hr
  rcases hr' with rfl | rfl
  · refine ⟨by simp, by simp, fun s hs => ?_, fun j h0 h1 => ?_⟩
    · have : s = ⟨1, none, 0, [], 0, 0⟩ ∨ s = ⟨2, none, 0, [], 0, 0⟩ := by simpa using hs
      rcases this with rfl | rfl <;> exact ⟨by decide, by decide, by simp, by simp, by decide, by decide, by decide, by decide⟩
    · have : j = 1 := by simp at h1; omega
      subst this; exact (by decide : (1 : Int) ≠ 2)
  · refine ⟨by simp, by simp, fun s hs => ?_, fun j h0 h1 => ?_⟩
    · have : s = ⟨2, none, 0, [], 0, 0⟩ ∨ s = ⟨1, none, 0, [], 0, 0⟩ := by simpa using hs
      rcases this with rfl | rfl <;> exact ⟨by decide, by decide, by simp, by simp, by decide, by decide, by decide, by decide⟩
    · have : j = 1 := by simp at h1; omega
      subst this; exact (by decide : (2 : Int) ≠ 1)
theorem ex_go (a b : Option Addr) {x y : Int} (hx : -1 ≤ x ∧ x ≤ 2) (hy : -1 ≤ y ∧ y ≤ 2) : GoP (exR a b) [x, y] := by
  refine ⟨rfl, fun t ht => ?_⟩
  have : t = 0 ∨ t = 1 := by simp [exR] at ht; omega
  rcases this with rfl | rfl
  · exact hx
  · exact hy
theorem ex_nh (a b : Option Addr) {x y : Int} (h : secT (exR a b) [x, y] 1 ≠ secT (exR a b) [x, y] 0) : ¬ Hel (exR a b) [x, y] := by
  rintro ⟨t, u, ht, hu, h0, e⟩
  have : t = 1 ∧ u = 0 := by simp [exR] at ht; omega
  obtain ⟨rfl, rfl⟩ := this
  exact h e
theorem ex_ck {a b : Option Addr} {x y e : Int} (hk : CkR (exR a b) [x, y] e) (hx : -1 ≤ x ∧ x ≤ 2) (hy : -1 ≤ y ∧ y ≤ 2) (h : secT (exR a b) [x, y] 1 ≠ secT (exR a b) [x, y] 0) : e = 0 := hk.of (ex_sm a b).va (ex_go a b hx hy) (ex_nh a b h)
theorem ex_n1 (a b : Option Addr) : secT (exR a b) [-1, 0] 1 ≠ secT (exR a b) [-1, 0] 0 := by
  rw [show secT (exR a b) [-1, 0] 1 = 2 by kernel_rfl, show secT (exR a b) [-1, 0] 0 = -1 by kernel_rfl]; decide
theorem ex_n2 (a b : Option Addr) : secT (exR a b) [0, 0] 1 ≠ secT (exR a b) [0, 0] 0 := by
  rw [show secT (exR a b) [0, 0] 1 = 2 by kernel_rfl, show secT (exR a b) [0, 0] 0 = 1 by kernel_rfl]; decide
theorem ex_len (a b : Option Addr) : ∀ r ∈ exR a b, (r.st.length : Int) ≤ 9223372036854775807 ∧ ∀ s ∈ r.st, (s.pts.length : Int) ≤ 9223372036854775807 := fun r hr => by
  obtain ⟨h1, h2, h3⟩ := (ex_sm a b).row r hr
  exact ⟨by omega, fun s hs => by have := (h3.1 s hs).p1; omega⟩
set_option maxRecDepth 100000 in
theorem ex_s1 (a b : Option Addr) : (srF (exR a b) [-1, 0] 50 0).1 = [1, 1, 0, 0, 0] := by kernel_rfl
set_option maxRecDepth 100000 in
theorem ex_s2 (a b : Option Addr) : (srF (exR a b) [-1, 0] 50 0).2.2 = 0 := by kernel_rfl
set_option maxRecDepth 100000 in
theorem ex_s3 (a b : Option Addr) : srF (exR a b) [0, 0] 50 0 = ([], 1, 19) := by kernel_rfl

set_option maxHeartbeats 4000000 in
set_option maxRecDepth 100000 in
theorem keep2_At_ok (rows : List Pw) (ap : Option Addr) (cp l_ h_ : Nat) (al : Option Addr) (cl : Nat) (l : List Int) (ll hl : Nat) (w : World) (hP : PIn l_ h_ w ap rows) (hpn : (rows.length : Int) ≤ 9223372036854775807) (hL : Ints ll hl w al l) (hn : (l.length : Int) ≤ 9223372036854775807) (hsm : SmP rows) : Cal Try.prog 14 [.slice ap rows.length cp, .slice al l.length cl] w (fun v w' => ∃ ax cx x, v = .slice ax x.length cx ∧ GoP rows x ∧ x.length ≤ cx ∧ Ow 3 encI 1 w.heap.size w'.heap.size w' ax cx x ∧ Ext w w') := by
  replace hP := hP.full
  replace hL := Ints.full hL
  have hn3 := hsm.n3
  have hE : Out 0 0 w w := Out.refl _ _ w
  refine enter Try.func14 rfl Try.ntmps14 rfl ?_
  refine wp_seq ?_
  refine rg ?_
  refine st (asS rfl) ?_
  refine rg_end ?_
  refine n_then ?_
  refine wp_seq ?_
  refine rg ?_
  refine st (mvS rfl) ?_
  refine sc cl33 (keep_From_ok _ _ _ _ _ _ hL hn) rfl ?_
  rintro v5 w1 ⟨bs, rfl, hbs, hzs, hS, ho2⟩
  have hz6 := ho2.size
  replace hP := hP.ext ho2
  replace hL := hL.ext ho2
  replace hE := hE.step ho2 (.inl (Nat.le_refl _))
  refine st (asP rfl) ?_
  refine rg_end ?_
  refine n_then ?_
  refine wp_seq ?_
  refine rg ?_
  refine st (asS rfl) ?_
  refine rg_end ?_
  refine n_then ?_
  refine wp_seq ?_
  refine rg ?_
  refine sd (d_allocR (sz := 1) (m := 8) (lo := w.heap.size) (enc := encB) (e0 := false) zerR52 zerC52 (fun _ => rfl) (by unfold maxLen; omega) (by omega) ?_)
  intro bH w7 hbbH hs9 ho8 hH
  have hz11 := ho8.size
  replace hP := hP.ext ho8
  replace hL := hL.ext ho8
  replace hE := hE.step ho8 (.inl (Nat.le_refl _))
  replace hS := hS.ext ho8
  refine rg_end ?_
  refine n_then ?_
  refine wp_seq ?_
  refine wp_seq ?_
  refine rg ?_
  refine st (mvS rfl) ?_
  refine st (y_len Try.underlying23 rfl) ?_
  refine st (mvI rfl) ?_
  refine rg_end ?_
  refine n_then ?_
  refine wp_block ?_
  obtain ⟨z1, hz1⟩ : ∃ z, z = w7.heap.size := ⟨_, rfl⟩
  obtain ⟨zH, hzH⟩ : ∃ z, z = bH + 1 := ⟨_, rfl⟩
  rw [← hzH] at hH
  refine lp (γ := Nat × List Int × Option Addr × Nat × List Bool) [6, 9, 10, 15, 16, 17, 18, 19, 20, 21, 22, 23, 24, 25, 26, 27, 28, 29, 30, 31, 32, 33, 34, 35, 36, 37, 38, 39, 40, 41, 42, 43, 44, 45, 46, 47, 48, 49, 50, 51, 52, 53, 54, 55, 56, 57, 58, 59, 60, 61, 62, 63, 64, 65] (fun ⟨k, x, ax, cx, Hb⟩ => [(15, .int .i64 (k : Int)), (6, .slice ax x.length cx)]) (fun ⟨k, x, ax, cx, Hb⟩ w_ => Out bs z1 w7 w_ ∧ (k : Int) ≤ rows.length ∧ (x.length = k ∧ ∀ i : Nat, i < k → -1 ≤ el x (i : Int) ∧ el x (i : Int) ≤ (el rows (i : Int)).st.length) ∧ Hb.length = 8 ∧ Src 0 w.heap.size bs w_ ∧ Ow 52 encB 1 w.heap.size zH w_ (some ⟨bH, 0, none⟩) 8 Hb ∧ Ow 3 encI 1 z1 w_.heap.size w_ ax cx x) (fun ⟨k, x, ax, cx, Hb⟩ => rows.length - k) (0, [], none, 0, List.replicate 8 false) ⟨rfl, rfl, trivial⟩ ⟨Out.refl _ _ _, by omega, ⟨rfl, fun i hi => by omega⟩, by simp, hS, hH, Ow.nil (fun _ => rfl)⟩ ?_
  rintro ⟨k, x, ax, cx, Hb⟩ hav_ w12 ⟨ho13, hk_, hxx, hHl, hS, hH, hx⟩
  have hlp0 := ho13
  have hz14 := ho13.size
  replace hP := hP.out ho13 (by first | omega | (simp only [blk_some, hi1_some] at *; omega))
  replace hL := hL.out ho13 (by first | omega | (simp only [blk_some, hi1_some] at *; omega))
  replace hE := hE.step ho13 (by first | omega | (simp only [blk_some, hi1_some] at *; omega))
  have hxl := hxx.1
  have hxr := hx.rng
  refine wp_seq ?_
  refine rg ?_
  refine st (y_lss rfl rfl) ?_
  refine rg_end ?_
  refine n_then ?_
  refine wp_seq ?_
  refine cnd rfl (fun hc0 => ?_) (fun hc0 => ?_)
  ·
    try simp only [decide_eq_true_eq, decide_eq_false_iff_not, Bool.not_eq_true', Bool.not_eq_false', Bool.and_eq_true, Bool.or_eq_true, Bool.or_eq_false_iff, Bool.cond_true_right, Bool.cond_false_right, Bool.cond_true_left, Bool.cond_false_left, ne_eq, Decidable.not_not, bne_iff_ne, beq_iff_eq, beq_eq_false_iff_ne, Bool.not_true, Bool.not_false] at hc0
    have hmr := el_mem (l := rows) (i := (k : Int)) (by omega) hc0
    have hR := hP.row _ hmr
    obtain ⟨m1, m2, m3⟩ := hsm.row _ hmr
    refine wp_skip ?_
    refine n_then ?_
    refine wp_seq ?_
    refine wp_block ?_
    refine wp_seq ?_
    refine rg ?_
    refine st (y_ix hP.tb sl23 rfl (rfl) rfl (by omega) (by omega)) ?_
    refine st (y_le hP.tb na35 rfl (by omega) (by omega) rfl) ?_
    refine st (asS rfl) ?_
    refine rg_end ?_
    refine n_then ?_
    refine wp_seq ?_
    refine rg ?_
    refine st (mvP rfl) ?_
    refine st (mvS rfl) ?_
    refine st (y_len Try.underlying35 rfl) ?_
    refine st (y_add rfl rfl (by omega)) ?_
    refine sc cl34 (keep_Next_ok _ _ _ _ _ hS (by omega) (by omega) (by omega)) rfl ?_
    rintro v19 w15 ⟨r7, rfl, r7_0, r7_1, hS, ho16⟩
    have hz20 := ho16.size
    replace hP := hP.out ho16 (by first | omega | (simp only [blk_some, hi1_some] at *; omega))
    replace hL := hL.out ho16 (by first | omega | (simp only [blk_some, hi1_some] at *; omega))
    replace hE := hE.step ho16 (by first | omega | (simp only [blk_some, hi1_some] at *; omega))
    have hrnhH := hH.rng
    replace hH := hH.out ho16 (by first | omega | (simp only [blk_some, hi1_some] at *; omega))
    have hrnhx := hx.rng
    replace hx := hx.out ho16 (by first | omega | (simp only [blk_some, hi1_some] at *; omega))
    replace hlp0 := hlp0.step ho16 (by first | omega | (simp only [blk_some, hi1_some] at *; omega))
    replace hR := hR.out ho16 (by first | omega | (simp only [blk_some, hi1_some] at *; omega))
    refine st (y_sub rfl rfl (by omega)) ?_
    refine st (asI rfl) ?_
    refine rg_end ?_
    refine n_then ?_
    refine wp_seq ?_
    refine wp_seq ?_
    refine rg ?_
    refine st (mvI rfl) ?_
    refine st (y_geq rfl rfl) ?_
    refine st (mvB rfl) ?_
    refine gspL 27 rfl (fun hg21 => ?_) (fun hg21 => ?_)
    ·
      have hg21n := hg21; try simp only [decide_eq_true_eq, decide_eq_false_iff_not, Bool.not_eq_true', Bool.not_eq_false', Bool.and_eq_true, Bool.or_eq_true, Bool.or_eq_false_iff, Bool.cond_true_right, Bool.cond_false_right, Bool.cond_true_left, Bool.cond_false_left, ne_eq, Decidable.not_not, bne_iff_ne, beq_iff_eq, beq_eq_false_iff_ne, Bool.not_true, Bool.not_false] at hg21n
      refine stg rfl rfl hg21 (mvI rfl) ?_
      refine stg rfl rfl hg21 (mvS rfl) ?_
      refine stg rfl rfl hg21 (y_len Try.underlying35 rfl) ?_
      refine stg rfl rfl hg21 (y_lss rfl rfl) ?_
      refine st (y_pickT rfl hg21 (v := .bool _) rfl) ?_
      refine st (mvB rfl) ?_
      refine gspL 33 rfl (fun hg22 => ?_) (fun hg22 => ?_)
      ·
        have hg22n := hg22; try simp only [decide_eq_true_eq, decide_eq_false_iff_not, Bool.not_eq_true', Bool.not_eq_false', Bool.and_eq_true, Bool.or_eq_true, Bool.or_eq_false_iff, Bool.cond_true_right, Bool.cond_false_right, Bool.cond_true_left, Bool.cond_false_left, ne_eq, Decidable.not_not, bne_iff_ne, beq_iff_eq, beq_eq_false_iff_ne, Bool.not_true, Bool.not_false] at hg22n
        have hsg := m3.1 _ (el_mem (l := (el rows (k : Int)).st) (i := r7 - 1) (by omega) (by omega))
        have s0 := hsg.s0
        have s1 := hsg.s1
        refine stg rfl rfl hg22 (mvS rfl) ?_
        refine stg rfl rfl hg22 (mvI rfl) ?_
        refine stg rfl rfl hg22 (y_ix hR sl35 rfl (rfl) rfl (by omega) (by omega)) ?_
        refine stg rfl rfl hg22 (y_fld fld44_0 rfl) ?_
        refine stg rfl rfl hg22 (y_lf hR na3 rfl (by omega) (by omega) rfl) ?_
        refine stg rfl rfl hg22 (y_ixR Try.underlying52 sz4 rfl rfl rfl (by omega) (by omega)) ?_
        refine stg rfl rfl hg22 (y_le hH.sl na4 rfl (by omega) (by omega) rfl) ?_
        refine st (y_pickT rfl hg22 (v := .bool _) rfl) ?_
        refine st (mvB rfl) ?_
        refine gspL 42 rfl (fun hg23 => ?_) (fun hg23 => ?_)
        ·
          have hg23n := hg23; try simp only [decide_eq_true_eq, decide_eq_false_iff_not, Bool.not_eq_true', Bool.not_eq_false', Bool.and_eq_true, Bool.or_eq_true, Bool.or_eq_false_iff, Bool.cond_true_right, Bool.cond_false_right, Bool.cond_true_left, Bool.cond_false_left, ne_eq, Decidable.not_not, bne_iff_ne, beq_iff_eq, beq_eq_false_iff_ne, Bool.not_true, Bool.not_false] at hg23n
          refine stg rfl rfl hg23 (mvP rfl) ?_
          refine scg rfl rfl hg23 cl34 (keep_Next_ok _ _ _ _ _ hS (by omega) (by omega) (by omega)) rfl ?_
          rintro v28 w24 ⟨b8, rfl, b8_0, b8_1, hS, ho25⟩
          have hz29 := ho25.size
          replace hP := hP.out ho25 (by first | omega | (simp only [blk_some, hi1_some] at *; omega))
          replace hL := hL.out ho25 (by first | omega | (simp only [blk_some, hi1_some] at *; omega))
          replace hE := hE.step ho25 (by first | omega | (simp only [blk_some, hi1_some] at *; omega))
          replace hH := hH.out ho25 (by first | omega | (simp only [blk_some, hi1_some] at *; omega))
          replace hx := hx.out ho25 (by first | omega | (simp only [blk_some, hi1_some] at *; omega))
          replace hlp0 := hlp0.step ho25 (by first | omega | (simp only [blk_some, hi1_some] at *; omega))
          replace hR := hR.out ho25 (by first | omega | (simp only [blk_some, hi1_some] at *; omega))
          refine stg rfl rfl hg23 (y_gtr rfl rfl) ?_
          refine st (y_pickT rfl hg23 (v := .bool _) rfl) ?_
          refine rg_end ?_
          refine n_then ?_
          refine cnd rfl (fun hc1 => ?_) (fun hc1 => ?_)
          ·
            try simp only [decide_eq_true_eq, decide_eq_false_iff_not, Bool.not_eq_true', Bool.not_eq_false', Bool.and_eq_true, Bool.or_eq_true, Bool.or_eq_false_iff, Bool.cond_true_right, Bool.cond_false_right, Bool.cond_true_left, Bool.cond_false_left, ne_eq, Decidable.not_not, bne_iff_ne, beq_iff_eq, beq_eq_false_iff_ne, Bool.not_true, Bool.not_false] at hc1
            refine rg ?_
            refine st (asI rfl) ?_
            refine rg_end ?_
            refine n_then ?_
            refine wp_seq ?_
            refine wp_seq ?_
            refine rg ?_
            refine st (mvI rfl) ?_
            refine st (y_geq rfl rfl) ?_
            refine st (mvB rfl) ?_
            refine gspL 49 rfl (fun hg30 => ?_) (fun hg30 => ?_)
            ·
              have hg30n := hg30; try simp only [decide_eq_true_eq, decide_eq_false_iff_not, Bool.not_eq_true', Bool.not_eq_false', Bool.and_eq_true, Bool.or_eq_true, Bool.or_eq_false_iff, Bool.cond_true_right, Bool.cond_false_right, Bool.cond_true_left, Bool.cond_false_left, ne_eq, Decidable.not_not, bne_iff_ne, beq_iff_eq, beq_eq_false_iff_ne, Bool.not_true, Bool.not_false] at hg30n
              refine stg rfl rfl hg30 (mvI rfl) ?_
              refine stg rfl rfl hg30 (mvS rfl) ?_
              refine stg rfl rfl hg30 (y_len Try.underlying35 rfl) ?_
              refine stg rfl rfl hg30 (y_lss rfl rfl) ?_
              refine st (y_pickT rfl hg30 (v := .bool _) rfl) ?_
              refine rg_end ?_
              refine n_then ?_
              refine cnd rfl (fun hc2 => ?_) (fun hc2 => ?_)
              ·
                try simp only [decide_eq_true_eq, decide_eq_false_iff_not, Bool.not_eq_true', Bool.not_eq_false', Bool.and_eq_true, Bool.or_eq_true, Bool.or_eq_false_iff, Bool.cond_true_right, Bool.cond_false_right, Bool.cond_true_left, Bool.cond_false_left, ne_eq, Decidable.not_not, bne_iff_ne, beq_iff_eq, beq_eq_false_iff_ne, Bool.not_true, Bool.not_false] at hc2
                first
                | (have hsg := m3.1 _ (el_mem (l := (el rows (k : Int)).st) (i := r7 - 1) (by omega) (by omega)))
                | skip
                have s0 := hsg.s0
                have s1 := hsg.s1
                refine rg ?_
                refine st (mvS rfl) ?_
                refine st (mvI rfl) ?_
                refine st (y_ix hR sl35 rfl (rfl) rfl (by omega) (by omega)) ?_
                refine st (y_fld fld44_0 rfl) ?_
                refine st (y_lf hR na3 rfl (by omega) (by omega) rfl) ?_
                refine st (y_ixR Try.underlying52 sz4 rfl rfl rfl (by omega) (by omega)) ?_
                refine sd0 (d_se (j := 0) (e' := true) hH sz4 rfl rfl rfl (by omega) (by omega) (Nat.le_of_ble_eq_true rfl) rfl ?_)
                intro w31 hs33 ho32 hH'
                have hrhH := hH.rng
                clear hH; have hH := hH'; clear hH'
                have hz34 := ho32.size
                replace hP := hP.out ho32 (by first | omega | (simp only [blk_some, hi1_some] at *; omega))
                replace hL := hL.out ho32 (by first | omega | (simp only [blk_some, hi1_some] at *; omega))
                replace hE := hE.step ho32 (by first | omega | (simp only [blk_some, hi1_some] at *; omega))
                replace hS := hS.out ho32 (by first | omega | (simp only [blk_some, hi1_some] at *; omega))
                replace hx := hx.out ho32 (by first | omega | (simp only [blk_some, hi1_some] at *; omega))
                replace hlp0 := hlp0.step ho32 (by first | omega | (simp only [blk_some, hi1_some] at *; omega))
                replace hR := hR.out ho32 (by first | omega | (simp only [blk_some, hi1_some] at *; omega))
                refine rg_end ?_
                refine n_then ?_
                refine rg ?_
                refine st (mvS rfl) ?_
                refine st (mvI rfl) ?_
                refine sd (d_bs (bsl22_1 _ _) rfl ?_)
                intro bl38 w35 hbbl38 hs37 ho36 hbl38
                have hz39 := ho36.size
                replace hP := hP.ext ho36
                replace hL := hL.ext ho36
                replace hE := hE.step ho36 (.inl (Nat.le_refl _))
                replace hS := hS.ext ho36
                replace hH := hH.ext ho36
                replace hx := hx.ext ho36
                replace hlp0 := hlp0.step ho36 (.inl (Nat.le_refl _))
                replace hR := hR.ext ho36
                have hrhx := hx.rng
                refine sd (d_app (xs := [(_ : Int)]) hx sl22 infoz3 (by decide) rfl rfl rfl rfl (hbl38) (fun _ => rfl) (by simp; unfold maxLen; omega) (by simp; omega) (by omega) (by omega) ?_)
                intro ax1 cx1 w40 ho41 hx'
                have hs42 := ho41.size
                clear hx; have hx := hx'; clear hx'
                have hz45 := ho41.size
                replace hP := hP.out ho41 (by first | omega | (simp only [blk_some, hi1_some] at *; omega))
                replace hL := hL.out ho41 (by first | omega | (simp only [blk_some, hi1_some] at *; omega))
                replace hE := hE.step ho41 (by first | omega | (simp only [blk_some, hi1_some] at *; omega))
                replace hS := hS.out ho41 (by first | omega | (simp only [blk_some, hi1_some] at *; omega))
                replace hH := hH.out ho41 (by first | omega | (simp only [blk_some, hi1_some] at *; omega))
                replace hlp0 := hlp0.step ho41 (by first | omega | (simp only [blk_some, hi1_some] at *; omega))
                replace hR := hR.out ho41 (by first | omega | (simp only [blk_some, hi1_some] at *; omega))
                have hxr1 := hx.rng
                refine st (asS rfl) ?_
                refine rg_end ?_
                refine n_blk ?_
                refine n_then ?_
                refine rg ?_
                refine st (y_add rfl rfl (by omega)) ?_
                refine st (mvI rfl) ?_
                refine rg_end ?_
                exact n_then ⟨(k + 1, _, _, _, _), _, rfl, same_lk rfl (same_h0), ⟨rfl, rfl, trivial⟩, ⟨hlp0, by omega, at_snoc hxl hxx.2 (by omega), (by first | exact hHl | (rw [List.length_set]; exact hHl)), hS, hH, hx.wide (by omega)⟩, by first | omega | (dsimp only; omega)⟩
              ·
                try simp only [decide_eq_true_eq, decide_eq_false_iff_not, Bool.not_eq_true', Bool.not_eq_false', Bool.and_eq_true, Bool.or_eq_true, Bool.or_eq_false_iff, Bool.cond_true_right, Bool.cond_false_right, Bool.cond_true_left, Bool.cond_false_left, ne_eq, Decidable.not_not, bne_iff_ne, beq_iff_eq, beq_eq_false_iff_ne, Bool.not_true, Bool.not_false] at hc2
                refine wp_skip ?_
                refine n_then ?_
                refine rg ?_
                refine st (mvS rfl) ?_
                refine st (mvI rfl) ?_
                refine sd (d_bs (bsl22_1 _ _) rfl ?_)
                intro bl49 w46 hbbl49 hs48 ho47 hbl49
                have hz50 := ho47.size
                replace hP := hP.ext ho47
                replace hL := hL.ext ho47
                replace hE := hE.step ho47 (.inl (Nat.le_refl _))
                replace hS := hS.ext ho47
                replace hH := hH.ext ho47
                replace hx := hx.ext ho47
                replace hlp0 := hlp0.step ho47 (.inl (Nat.le_refl _))
                replace hR := hR.ext ho47
                have hrhx := hx.rng
                refine sd (d_app (xs := [(_ : Int)]) hx sl22 infoz3 (by decide) rfl rfl rfl rfl (hbl49) (fun _ => rfl) (by simp; unfold maxLen; omega) (by simp; omega) (by omega) (by omega) ?_)
                intro ax1 cx1 w51 ho52 hx'
                have hs53 := ho52.size
                clear hx; have hx := hx'; clear hx'
                have hz56 := ho52.size
                replace hP := hP.out ho52 (by first | omega | (simp only [blk_some, hi1_some] at *; omega))
                replace hL := hL.out ho52 (by first | omega | (simp only [blk_some, hi1_some] at *; omega))
                replace hE := hE.step ho52 (by first | omega | (simp only [blk_some, hi1_some] at *; omega))
                replace hS := hS.out ho52 (by first | omega | (simp only [blk_some, hi1_some] at *; omega))
                replace hH := hH.out ho52 (by first | omega | (simp only [blk_some, hi1_some] at *; omega))
                replace hlp0 := hlp0.step ho52 (by first | omega | (simp only [blk_some, hi1_some] at *; omega))
                replace hR := hR.out ho52 (by first | omega | (simp only [blk_some, hi1_some] at *; omega))
                have hxr1 := hx.rng
                refine st (asS rfl) ?_
                refine rg_end ?_
                refine n_blk ?_
                refine n_then ?_
                refine rg ?_
                refine st (y_add rfl rfl (by omega)) ?_
                refine st (mvI rfl) ?_
                refine rg_end ?_
                exact n_then ⟨(k + 1, _, _, _, _), _, rfl, same_lk rfl (same_h0), ⟨rfl, rfl, trivial⟩, ⟨hlp0, by omega, at_snoc hxl hxx.2 (by omega), (by first | exact hHl | (rw [List.length_set]; exact hHl)), hS, hH, hx.wide (by omega)⟩, by first | omega | (dsimp only; omega)⟩
            ·
              have hg30n := hg30; try simp only [decide_eq_true_eq, decide_eq_false_iff_not, Bool.not_eq_true', Bool.not_eq_false', Bool.and_eq_true, Bool.or_eq_true, Bool.or_eq_false_iff, Bool.cond_true_right, Bool.cond_false_right, Bool.cond_true_left, Bool.cond_false_left, ne_eq, Decidable.not_not, bne_iff_ne, beq_iff_eq, beq_eq_false_iff_ne, Bool.not_true, Bool.not_false] at hg30n
              refine sts rfl rfl hg30 ?_
              refine sts rfl rfl hg30 ?_
              refine sts rfl rfl hg30 ?_
              refine sts rfl rfl hg30 ?_
              refine st (y_pickF rfl hg30 (v := .bool _) rfl) ?_
              refine rg_end ?_
              refine n_then ?_
              refine cnd rfl (fun hc2 => absurd hc2 (by decide)) (fun hc2 => ?_)
              refine wp_skip ?_
              refine n_then ?_
              refine rg ?_
              refine st (mvS rfl) ?_
              refine st (mvI rfl) ?_
              refine sd (d_bs (bsl22_1 _ _) rfl ?_)
              intro bl60 w57 hbbl60 hs59 ho58 hbl60
              have hz61 := ho58.size
              replace hP := hP.ext ho58
              replace hL := hL.ext ho58
              replace hE := hE.step ho58 (.inl (Nat.le_refl _))
              replace hS := hS.ext ho58
              replace hH := hH.ext ho58
              replace hx := hx.ext ho58
              replace hlp0 := hlp0.step ho58 (.inl (Nat.le_refl _))
              replace hR := hR.ext ho58
              have hrhx := hx.rng
              refine sd (d_app (xs := [(_ : Int)]) hx sl22 infoz3 (by decide) rfl rfl rfl rfl (hbl60) (fun _ => rfl) (by simp; unfold maxLen; omega) (by simp; omega) (by omega) (by omega) ?_)
              intro ax1 cx1 w62 ho63 hx'
              have hs64 := ho63.size
              clear hx; have hx := hx'; clear hx'
              have hz67 := ho63.size
              replace hP := hP.out ho63 (by first | omega | (simp only [blk_some, hi1_some] at *; omega))
              replace hL := hL.out ho63 (by first | omega | (simp only [blk_some, hi1_some] at *; omega))
              replace hE := hE.step ho63 (by first | omega | (simp only [blk_some, hi1_some] at *; omega))
              replace hS := hS.out ho63 (by first | omega | (simp only [blk_some, hi1_some] at *; omega))
              replace hH := hH.out ho63 (by first | omega | (simp only [blk_some, hi1_some] at *; omega))
              replace hlp0 := hlp0.step ho63 (by first | omega | (simp only [blk_some, hi1_some] at *; omega))
              replace hR := hR.out ho63 (by first | omega | (simp only [blk_some, hi1_some] at *; omega))
              have hxr1 := hx.rng
              refine st (asS rfl) ?_
              refine rg_end ?_
              refine n_blk ?_
              refine n_then ?_
              refine rg ?_
              refine st (y_add rfl rfl (by omega)) ?_
              refine st (mvI rfl) ?_
              refine rg_end ?_
              exact n_then ⟨(k + 1, _, _, _, _), _, rfl, same_lk rfl (same_h0), ⟨rfl, rfl, trivial⟩, ⟨hlp0, by omega, at_snoc hxl hxx.2 (by omega), (by first | exact hHl | (rw [List.length_set]; exact hHl)), hS, hH, hx.wide (by omega)⟩, by first | omega | (dsimp only; omega)⟩
          ·
            try simp only [decide_eq_true_eq, decide_eq_false_iff_not, Bool.not_eq_true', Bool.not_eq_false', Bool.and_eq_true, Bool.or_eq_true, Bool.or_eq_false_iff, Bool.cond_true_right, Bool.cond_false_right, Bool.cond_true_left, Bool.cond_false_left, ne_eq, Decidable.not_not, bne_iff_ne, beq_iff_eq, beq_eq_false_iff_ne, Bool.not_true, Bool.not_false] at hc1
            refine wp_skip ?_
            refine n_then ?_
            refine wp_seq ?_
            refine wp_seq ?_
            refine rg ?_
            refine st (mvI rfl) ?_
            refine st (y_geq rfl rfl) ?_
            refine st (mvB rfl) ?_
            refine gspL 49 rfl (fun hg68 => ?_) (fun hg68 => ?_)
            ·
              have hg68n := hg68; try simp only [decide_eq_true_eq, decide_eq_false_iff_not, Bool.not_eq_true', Bool.not_eq_false', Bool.and_eq_true, Bool.or_eq_true, Bool.or_eq_false_iff, Bool.cond_true_right, Bool.cond_false_right, Bool.cond_true_left, Bool.cond_false_left, ne_eq, Decidable.not_not, bne_iff_ne, beq_iff_eq, beq_eq_false_iff_ne, Bool.not_true, Bool.not_false] at hg68n
              refine stg rfl rfl hg68 (mvI rfl) ?_
              refine stg rfl rfl hg68 (mvS rfl) ?_
              refine stg rfl rfl hg68 (y_len Try.underlying35 rfl) ?_
              refine stg rfl rfl hg68 (y_lss rfl rfl) ?_
              refine st (y_pickT rfl hg68 (v := .bool _) rfl) ?_
              refine rg_end ?_
              refine n_then ?_
              refine cnd rfl (fun hc2 => ?_) (fun hc2 => ?_)
              ·
                try simp only [decide_eq_true_eq, decide_eq_false_iff_not, Bool.not_eq_true', Bool.not_eq_false', Bool.and_eq_true, Bool.or_eq_true, Bool.or_eq_false_iff, Bool.cond_true_right, Bool.cond_false_right, Bool.cond_true_left, Bool.cond_false_left, ne_eq, Decidable.not_not, bne_iff_ne, beq_iff_eq, beq_eq_false_iff_ne, Bool.not_true, Bool.not_false] at hc2
                first
                | (have hsg := m3.1 _ (el_mem (l := (el rows (k : Int)).st) (i := r7 - 1) (by omega) (by omega)))
                | skip
                have s0 := hsg.s0
                have s1 := hsg.s1
                refine rg ?_
                refine st (mvS rfl) ?_
                refine st (mvI rfl) ?_
                refine st (y_ix hR sl35 rfl (rfl) rfl (by omega) (by omega)) ?_
                refine st (y_fld fld44_0 rfl) ?_
                refine st (y_lf hR na3 rfl (by omega) (by omega) rfl) ?_
                refine st (y_ixR Try.underlying52 sz4 rfl rfl rfl (by omega) (by omega)) ?_
                refine sd0 (d_se (j := 0) (e' := true) hH sz4 rfl rfl rfl (by omega) (by omega) (Nat.le_of_ble_eq_true rfl) rfl ?_)
                intro w69 hs71 ho70 hH'
                have hrhH := hH.rng
                clear hH; have hH := hH'; clear hH'
                have hz72 := ho70.size
                replace hP := hP.out ho70 (by first | omega | (simp only [blk_some, hi1_some] at *; omega))
                replace hL := hL.out ho70 (by first | omega | (simp only [blk_some, hi1_some] at *; omega))
                replace hE := hE.step ho70 (by first | omega | (simp only [blk_some, hi1_some] at *; omega))
                replace hS := hS.out ho70 (by first | omega | (simp only [blk_some, hi1_some] at *; omega))
                replace hx := hx.out ho70 (by first | omega | (simp only [blk_some, hi1_some] at *; omega))
                replace hlp0 := hlp0.step ho70 (by first | omega | (simp only [blk_some, hi1_some] at *; omega))
                replace hR := hR.out ho70 (by first | omega | (simp only [blk_some, hi1_some] at *; omega))
                refine rg_end ?_
                refine n_then ?_
                refine rg ?_
                refine st (mvS rfl) ?_
                refine st (mvI rfl) ?_
                refine sd (d_bs (bsl22_1 _ _) rfl ?_)
                intro bl76 w73 hbbl76 hs75 ho74 hbl76
                have hz77 := ho74.size
                replace hP := hP.ext ho74
                replace hL := hL.ext ho74
                replace hE := hE.step ho74 (.inl (Nat.le_refl _))
                replace hS := hS.ext ho74
                replace hH := hH.ext ho74
                replace hx := hx.ext ho74
                replace hlp0 := hlp0.step ho74 (.inl (Nat.le_refl _))
                replace hR := hR.ext ho74
                have hrhx := hx.rng
                refine sd (d_app (xs := [(_ : Int)]) hx sl22 infoz3 (by decide) rfl rfl rfl rfl (hbl76) (fun _ => rfl) (by simp; unfold maxLen; omega) (by simp; omega) (by omega) (by omega) ?_)
                intro ax1 cx1 w78 ho79 hx'
                have hs80 := ho79.size
                clear hx; have hx := hx'; clear hx'
                have hz83 := ho79.size
                replace hP := hP.out ho79 (by first | omega | (simp only [blk_some, hi1_some] at *; omega))
                replace hL := hL.out ho79 (by first | omega | (simp only [blk_some, hi1_some] at *; omega))
                replace hE := hE.step ho79 (by first | omega | (simp only [blk_some, hi1_some] at *; omega))
                replace hS := hS.out ho79 (by first | omega | (simp only [blk_some, hi1_some] at *; omega))
                replace hH := hH.out ho79 (by first | omega | (simp only [blk_some, hi1_some] at *; omega))
                replace hlp0 := hlp0.step ho79 (by first | omega | (simp only [blk_some, hi1_some] at *; omega))
                replace hR := hR.out ho79 (by first | omega | (simp only [blk_some, hi1_some] at *; omega))
                have hxr1 := hx.rng
                refine st (asS rfl) ?_
                refine rg_end ?_
                refine n_blk ?_
                refine n_then ?_
                refine rg ?_
                refine st (y_add rfl rfl (by omega)) ?_
                refine st (mvI rfl) ?_
                refine rg_end ?_
                exact n_then ⟨(k + 1, _, _, _, _), _, rfl, same_lk rfl (same_h0), ⟨rfl, rfl, trivial⟩, ⟨hlp0, by omega, at_snoc hxl hxx.2 (by omega), (by first | exact hHl | (rw [List.length_set]; exact hHl)), hS, hH, hx.wide (by omega)⟩, by first | omega | (dsimp only; omega)⟩
              ·
                try simp only [decide_eq_true_eq, decide_eq_false_iff_not, Bool.not_eq_true', Bool.not_eq_false', Bool.and_eq_true, Bool.or_eq_true, Bool.or_eq_false_iff, Bool.cond_true_right, Bool.cond_false_right, Bool.cond_true_left, Bool.cond_false_left, ne_eq, Decidable.not_not, bne_iff_ne, beq_iff_eq, beq_eq_false_iff_ne, Bool.not_true, Bool.not_false] at hc2
                refine wp_skip ?_
                refine n_then ?_
                refine rg ?_
                refine st (mvS rfl) ?_
                refine st (mvI rfl) ?_
                refine sd (d_bs (bsl22_1 _ _) rfl ?_)
                intro bl87 w84 hbbl87 hs86 ho85 hbl87
                have hz88 := ho85.size
                replace hP := hP.ext ho85
                replace hL := hL.ext ho85
                replace hE := hE.step ho85 (.inl (Nat.le_refl _))
                replace hS := hS.ext ho85
                replace hH := hH.ext ho85
                replace hx := hx.ext ho85
                replace hlp0 := hlp0.step ho85 (.inl (Nat.le_refl _))
                replace hR := hR.ext ho85
                have hrhx := hx.rng
                refine sd (d_app (xs := [(_ : Int)]) hx sl22 infoz3 (by decide) rfl rfl rfl rfl (hbl87) (fun _ => rfl) (by simp; unfold maxLen; omega) (by simp; omega) (by omega) (by omega) ?_)
                intro ax1 cx1 w89 ho90 hx'
                have hs91 := ho90.size
                clear hx; have hx := hx'; clear hx'
                have hz94 := ho90.size
                replace hP := hP.out ho90 (by first | omega | (simp only [blk_some, hi1_some] at *; omega))
                replace hL := hL.out ho90 (by first | omega | (simp only [blk_some, hi1_some] at *; omega))
                replace hE := hE.step ho90 (by first | omega | (simp only [blk_some, hi1_some] at *; omega))
                replace hS := hS.out ho90 (by first | omega | (simp only [blk_some, hi1_some] at *; omega))
                replace hH := hH.out ho90 (by first | omega | (simp only [blk_some, hi1_some] at *; omega))
                replace hlp0 := hlp0.step ho90 (by first | omega | (simp only [blk_some, hi1_some] at *; omega))
                replace hR := hR.out ho90 (by first | omega | (simp only [blk_some, hi1_some] at *; omega))
                have hxr1 := hx.rng
                refine st (asS rfl) ?_
                refine rg_end ?_
                refine n_blk ?_
                refine n_then ?_
                refine rg ?_
                refine st (y_add rfl rfl (by omega)) ?_
                refine st (mvI rfl) ?_
                refine rg_end ?_
                exact n_then ⟨(k + 1, _, _, _, _), _, rfl, same_lk rfl (same_h0), ⟨rfl, rfl, trivial⟩, ⟨hlp0, by omega, at_snoc hxl hxx.2 (by omega), (by first | exact hHl | (rw [List.length_set]; exact hHl)), hS, hH, hx.wide (by omega)⟩, by first | omega | (dsimp only; omega)⟩
            ·
              have hg68n := hg68; try simp only [decide_eq_true_eq, decide_eq_false_iff_not, Bool.not_eq_true', Bool.not_eq_false', Bool.and_eq_true, Bool.or_eq_true, Bool.or_eq_false_iff, Bool.cond_true_right, Bool.cond_false_right, Bool.cond_true_left, Bool.cond_false_left, ne_eq, Decidable.not_not, bne_iff_ne, beq_iff_eq, beq_eq_false_iff_ne, Bool.not_true, Bool.not_false] at hg68n
              refine sts rfl rfl hg68 ?_
              refine sts rfl rfl hg68 ?_
              refine sts rfl rfl hg68 ?_
              refine sts rfl rfl hg68 ?_
              refine st (y_pickF rfl hg68 (v := .bool _) rfl) ?_
              refine rg_end ?_
              refine n_then ?_
              refine cnd rfl (fun hc2 => absurd hc2 (by decide)) (fun hc2 => ?_)
              refine wp_skip ?_
              refine n_then ?_
              refine rg ?_
              refine st (mvS rfl) ?_
              refine st (mvI rfl) ?_
              refine sd (d_bs (bsl22_1 _ _) rfl ?_)
              intro bl98 w95 hbbl98 hs97 ho96 hbl98
              have hz99 := ho96.size
              replace hP := hP.ext ho96
              replace hL := hL.ext ho96
              replace hE := hE.step ho96 (.inl (Nat.le_refl _))
              replace hS := hS.ext ho96
              replace hH := hH.ext ho96
              replace hx := hx.ext ho96
              replace hlp0 := hlp0.step ho96 (.inl (Nat.le_refl _))
              replace hR := hR.ext ho96
              have hrhx := hx.rng
              refine sd (d_app (xs := [(_ : Int)]) hx sl22 infoz3 (by decide) rfl rfl rfl rfl (hbl98) (fun _ => rfl) (by simp; unfold maxLen; omega) (by simp; omega) (by omega) (by omega) ?_)
              intro ax1 cx1 w100 ho101 hx'
              have hs102 := ho101.size
              clear hx; have hx := hx'; clear hx'
              have hz105 := ho101.size
              replace hP := hP.out ho101 (by first | omega | (simp only [blk_some, hi1_some] at *; omega))
              replace hL := hL.out ho101 (by first | omega | (simp only [blk_some, hi1_some] at *; omega))
              replace hE := hE.step ho101 (by first | omega | (simp only [blk_some, hi1_some] at *; omega))
              replace hS := hS.out ho101 (by first | omega | (simp only [blk_some, hi1_some] at *; omega))
              replace hH := hH.out ho101 (by first | omega | (simp only [blk_some, hi1_some] at *; omega))
              replace hlp0 := hlp0.step ho101 (by first | omega | (simp only [blk_some, hi1_some] at *; omega))
              replace hR := hR.out ho101 (by first | omega | (simp only [blk_some, hi1_some] at *; omega))
              have hxr1 := hx.rng
              refine st (asS rfl) ?_
              refine rg_end ?_
              refine n_blk ?_
              refine n_then ?_
              refine rg ?_
              refine st (y_add rfl rfl (by omega)) ?_
              refine st (mvI rfl) ?_
              refine rg_end ?_
              exact n_then ⟨(k + 1, _, _, _, _), _, rfl, same_lk rfl (same_h0), ⟨rfl, rfl, trivial⟩, ⟨hlp0, by omega, at_snoc hxl hxx.2 (by omega), (by first | exact hHl | (rw [List.length_set]; exact hHl)), hS, hH, hx.wide (by omega)⟩, by first | omega | (dsimp only; omega)⟩
        ·
          have hg23n := hg23; try simp only [decide_eq_true_eq, decide_eq_false_iff_not, Bool.not_eq_true', Bool.not_eq_false', Bool.and_eq_true, Bool.or_eq_true, Bool.or_eq_false_iff, Bool.cond_true_right, Bool.cond_false_right, Bool.cond_true_left, Bool.cond_false_left, ne_eq, Decidable.not_not, bne_iff_ne, beq_iff_eq, beq_eq_false_iff_ne, Bool.not_true, Bool.not_false] at hg23n
          refine sts rfl rfl hg23 ?_
          refine sts rfl rfl hg23 ?_
          refine sts rfl rfl hg23 ?_
          refine st (y_pickF rfl hg23 (v := .bool _) rfl) ?_
          refine rg_end ?_
          refine n_then ?_
          refine cnd rfl (fun hc1 => absurd hc1 (by decide)) (fun hc1 => ?_)
          refine wp_skip ?_
          refine n_then ?_
          refine wp_seq ?_
          refine wp_seq ?_
          refine rg ?_
          refine st (mvI rfl) ?_
          refine st (y_geq rfl rfl) ?_
          refine st (mvB rfl) ?_
          refine gspL 49 rfl (fun hg106 => ?_) (fun hg106 => ?_)
          ·
            have hg106n := hg106; try simp only [decide_eq_true_eq, decide_eq_false_iff_not, Bool.not_eq_true', Bool.not_eq_false', Bool.and_eq_true, Bool.or_eq_true, Bool.or_eq_false_iff, Bool.cond_true_right, Bool.cond_false_right, Bool.cond_true_left, Bool.cond_false_left, ne_eq, Decidable.not_not, bne_iff_ne, beq_iff_eq, beq_eq_false_iff_ne, Bool.not_true, Bool.not_false] at hg106n
            refine stg rfl rfl hg106 (mvI rfl) ?_
            refine stg rfl rfl hg106 (mvS rfl) ?_
            refine stg rfl rfl hg106 (y_len Try.underlying35 rfl) ?_
            refine stg rfl rfl hg106 (y_lss rfl rfl) ?_
            refine st (y_pickT rfl hg106 (v := .bool _) rfl) ?_
            refine rg_end ?_
            refine n_then ?_
            refine cnd rfl (fun hc2 => ?_) (fun hc2 => ?_)
            ·
              try simp only [decide_eq_true_eq, decide_eq_false_iff_not, Bool.not_eq_true', Bool.not_eq_false', Bool.and_eq_true, Bool.or_eq_true, Bool.or_eq_false_iff, Bool.cond_true_right, Bool.cond_false_right, Bool.cond_true_left, Bool.cond_false_left, ne_eq, Decidable.not_not, bne_iff_ne, beq_iff_eq, beq_eq_false_iff_ne, Bool.not_true, Bool.not_false] at hc2
              first
              | (have hsg := m3.1 _ (el_mem (l := (el rows (k : Int)).st) (i := r7 - 1) (by omega) (by omega)))
              | skip
              have s0 := hsg.s0
              have s1 := hsg.s1
              refine rg ?_
              refine st (mvS rfl) ?_
              refine st (mvI rfl) ?_
              refine st (y_ix hR sl35 rfl (rfl) rfl (by omega) (by omega)) ?_
              refine st (y_fld fld44_0 rfl) ?_
              refine st (y_lf hR na3 rfl (by omega) (by omega) rfl) ?_
              refine st (y_ixR Try.underlying52 sz4 rfl rfl rfl (by omega) (by omega)) ?_
              refine sd0 (d_se (j := 0) (e' := true) hH sz4 rfl rfl rfl (by omega) (by omega) (Nat.le_of_ble_eq_true rfl) rfl ?_)
              intro w107 hs109 ho108 hH'
              have hrhH := hH.rng
              clear hH; have hH := hH'; clear hH'
              have hz110 := ho108.size
              replace hP := hP.out ho108 (by first | omega | (simp only [blk_some, hi1_some] at *; omega))
              replace hL := hL.out ho108 (by first | omega | (simp only [blk_some, hi1_some] at *; omega))
              replace hE := hE.step ho108 (by first | omega | (simp only [blk_some, hi1_some] at *; omega))
              replace hS := hS.out ho108 (by first | omega | (simp only [blk_some, hi1_some] at *; omega))
              replace hx := hx.out ho108 (by first | omega | (simp only [blk_some, hi1_some] at *; omega))
              replace hlp0 := hlp0.step ho108 (by first | omega | (simp only [blk_some, hi1_some] at *; omega))
              replace hR := hR.out ho108 (by first | omega | (simp only [blk_some, hi1_some] at *; omega))
              refine rg_end ?_
              refine n_then ?_
              refine rg ?_
              refine st (mvS rfl) ?_
              refine st (mvI rfl) ?_
              refine sd (d_bs (bsl22_1 _ _) rfl ?_)
              intro bl114 w111 hbbl114 hs113 ho112 hbl114
              have hz115 := ho112.size
              replace hP := hP.ext ho112
              replace hL := hL.ext ho112
              replace hE := hE.step ho112 (.inl (Nat.le_refl _))
              replace hS := hS.ext ho112
              replace hH := hH.ext ho112
              replace hx := hx.ext ho112
              replace hlp0 := hlp0.step ho112 (.inl (Nat.le_refl _))
              replace hR := hR.ext ho112
              have hrhx := hx.rng
              refine sd (d_app (xs := [(_ : Int)]) hx sl22 infoz3 (by decide) rfl rfl rfl rfl (hbl114) (fun _ => rfl) (by simp; unfold maxLen; omega) (by simp; omega) (by omega) (by omega) ?_)
              intro ax1 cx1 w116 ho117 hx'
              have hs118 := ho117.size
              clear hx; have hx := hx'; clear hx'
              have hz121 := ho117.size
              replace hP := hP.out ho117 (by first | omega | (simp only [blk_some, hi1_some] at *; omega))
              replace hL := hL.out ho117 (by first | omega | (simp only [blk_some, hi1_some] at *; omega))
              replace hE := hE.step ho117 (by first | omega | (simp only [blk_some, hi1_some] at *; omega))
              replace hS := hS.out ho117 (by first | omega | (simp only [blk_some, hi1_some] at *; omega))
              replace hH := hH.out ho117 (by first | omega | (simp only [blk_some, hi1_some] at *; omega))
              replace hlp0 := hlp0.step ho117 (by first | omega | (simp only [blk_some, hi1_some] at *; omega))
              replace hR := hR.out ho117 (by first | omega | (simp only [blk_some, hi1_some] at *; omega))
              have hxr1 := hx.rng
              refine st (asS rfl) ?_
              refine rg_end ?_
              refine n_blk ?_
              refine n_then ?_
              refine rg ?_
              refine st (y_add rfl rfl (by omega)) ?_
              refine st (mvI rfl) ?_
              refine rg_end ?_
              exact n_then ⟨(k + 1, _, _, _, _), _, rfl, same_lk rfl (same_h0), ⟨rfl, rfl, trivial⟩, ⟨hlp0, by omega, at_snoc hxl hxx.2 (by omega), (by first | exact hHl | (rw [List.length_set]; exact hHl)), hS, hH, hx.wide (by omega)⟩, by first | omega | (dsimp only; omega)⟩
            ·
              try simp only [decide_eq_true_eq, decide_eq_false_iff_not, Bool.not_eq_true', Bool.not_eq_false', Bool.and_eq_true, Bool.or_eq_true, Bool.or_eq_false_iff, Bool.cond_true_right, Bool.cond_false_right, Bool.cond_true_left, Bool.cond_false_left, ne_eq, Decidable.not_not, bne_iff_ne, beq_iff_eq, beq_eq_false_iff_ne, Bool.not_true, Bool.not_false] at hc2
              refine wp_skip ?_
              refine n_then ?_
              refine rg ?_
              refine st (mvS rfl) ?_
              refine st (mvI rfl) ?_
              refine sd (d_bs (bsl22_1 _ _) rfl ?_)
              intro bl125 w122 hbbl125 hs124 ho123 hbl125
              have hz126 := ho123.size
              replace hP := hP.ext ho123
              replace hL := hL.ext ho123
              replace hE := hE.step ho123 (.inl (Nat.le_refl _))
              replace hS := hS.ext ho123
              replace hH := hH.ext ho123
              replace hx := hx.ext ho123
              replace hlp0 := hlp0.step ho123 (.inl (Nat.le_refl _))
              replace hR := hR.ext ho123
              have hrhx := hx.rng
              refine sd (d_app (xs := [(_ : Int)]) hx sl22 infoz3 (by decide) rfl rfl rfl rfl (hbl125) (fun _ => rfl) (by simp; unfold maxLen; omega) (by simp; omega) (by omega) (by omega) ?_)
              intro ax1 cx1 w127 ho128 hx'
              have hs129 := ho128.size
              clear hx; have hx := hx'; clear hx'
              have hz132 := ho128.size
              replace hP := hP.out ho128 (by first | omega | (simp only [blk_some, hi1_some] at *; omega))
              replace hL := hL.out ho128 (by first | omega | (simp only [blk_some, hi1_some] at *; omega))
              replace hE := hE.step ho128 (by first | omega | (simp only [blk_some, hi1_some] at *; omega))
              replace hS := hS.out ho128 (by first | omega | (simp only [blk_some, hi1_some] at *; omega))
              replace hH := hH.out ho128 (by first | omega | (simp only [blk_some, hi1_some] at *; omega))
              replace hlp0 := hlp0.step ho128 (by first | omega | (simp only [blk_some, hi1_some] at *; omega))
              replace hR := hR.out ho128 (by first | omega | (simp only [blk_some, hi1_some] at *; omega))
              have hxr1 := hx.rng
              refine st (asS rfl) ?_
              refine rg_end ?_
              refine n_blk ?_
              refine n_then ?_
              refine rg ?_
              refine st (y_add rfl rfl (by omega)) ?_
              refine st (mvI rfl) ?_
              refine rg_end ?_
              exact n_then ⟨(k + 1, _, _, _, _), _, rfl, same_lk rfl (same_h0), ⟨rfl, rfl, trivial⟩, ⟨hlp0, by omega, at_snoc hxl hxx.2 (by omega), (by first | exact hHl | (rw [List.length_set]; exact hHl)), hS, hH, hx.wide (by omega)⟩, by first | omega | (dsimp only; omega)⟩
          ·
            have hg106n := hg106; try simp only [decide_eq_true_eq, decide_eq_false_iff_not, Bool.not_eq_true', Bool.not_eq_false', Bool.and_eq_true, Bool.or_eq_true, Bool.or_eq_false_iff, Bool.cond_true_right, Bool.cond_false_right, Bool.cond_true_left, Bool.cond_false_left, ne_eq, Decidable.not_not, bne_iff_ne, beq_iff_eq, beq_eq_false_iff_ne, Bool.not_true, Bool.not_false] at hg106n
            refine sts rfl rfl hg106 ?_
            refine sts rfl rfl hg106 ?_
            refine sts rfl rfl hg106 ?_
            refine sts rfl rfl hg106 ?_
            refine st (y_pickF rfl hg106 (v := .bool _) rfl) ?_
            refine rg_end ?_
            refine n_then ?_
            refine cnd rfl (fun hc2 => absurd hc2 (by decide)) (fun hc2 => ?_)
            refine wp_skip ?_
            refine n_then ?_
            refine rg ?_
            refine st (mvS rfl) ?_
            refine st (mvI rfl) ?_
            refine sd (d_bs (bsl22_1 _ _) rfl ?_)
            intro bl136 w133 hbbl136 hs135 ho134 hbl136
            have hz137 := ho134.size
            replace hP := hP.ext ho134
            replace hL := hL.ext ho134
            replace hE := hE.step ho134 (.inl (Nat.le_refl _))
            replace hS := hS.ext ho134
            replace hH := hH.ext ho134
            replace hx := hx.ext ho134
            replace hlp0 := hlp0.step ho134 (.inl (Nat.le_refl _))
            replace hR := hR.ext ho134
            have hrhx := hx.rng
            refine sd (d_app (xs := [(_ : Int)]) hx sl22 infoz3 (by decide) rfl rfl rfl rfl (hbl136) (fun _ => rfl) (by simp; unfold maxLen; omega) (by simp; omega) (by omega) (by omega) ?_)
            intro ax1 cx1 w138 ho139 hx'
            have hs140 := ho139.size
            clear hx; have hx := hx'; clear hx'
            have hz143 := ho139.size
            replace hP := hP.out ho139 (by first | omega | (simp only [blk_some, hi1_some] at *; omega))
            replace hL := hL.out ho139 (by first | omega | (simp only [blk_some, hi1_some] at *; omega))
            replace hE := hE.step ho139 (by first | omega | (simp only [blk_some, hi1_some] at *; omega))
            replace hS := hS.out ho139 (by first | omega | (simp only [blk_some, hi1_some] at *; omega))
            replace hH := hH.out ho139 (by first | omega | (simp only [blk_some, hi1_some] at *; omega))
            replace hlp0 := hlp0.step ho139 (by first | omega | (simp only [blk_some, hi1_some] at *; omega))
            replace hR := hR.out ho139 (by first | omega | (simp only [blk_some, hi1_some] at *; omega))
            have hxr1 := hx.rng
            refine st (asS rfl) ?_
            refine rg_end ?_
            refine n_blk ?_
            refine n_then ?_
            refine rg ?_
            refine st (y_add rfl rfl (by omega)) ?_
            refine st (mvI rfl) ?_
            refine rg_end ?_
            exact n_then ⟨(k + 1, _, _, _, _), _, rfl, same_lk rfl (same_h0), ⟨rfl, rfl, trivial⟩, ⟨hlp0, by omega, at_snoc hxl hxx.2 (by omega), (by first | exact hHl | (rw [List.length_set]; exact hHl)), hS, hH, hx.wide (by omega)⟩, by first | omega | (dsimp only; omega)⟩
      ·
        have hg22n := hg22; try simp only [decide_eq_true_eq, decide_eq_false_iff_not, Bool.not_eq_true', Bool.not_eq_false', Bool.and_eq_true, Bool.or_eq_true, Bool.or_eq_false_iff, Bool.cond_true_right, Bool.cond_false_right, Bool.cond_true_left, Bool.cond_false_left, ne_eq, Decidable.not_not, bne_iff_ne, beq_iff_eq, beq_eq_false_iff_ne, Bool.not_true, Bool.not_false] at hg22n
        refine sts rfl rfl hg22 ?_
        refine sts rfl rfl hg22 ?_
        refine sts rfl rfl hg22 ?_
        refine sts rfl rfl hg22 ?_
        refine sts rfl rfl hg22 ?_
        refine sts rfl rfl hg22 ?_
        refine sts rfl rfl hg22 ?_
        refine st (y_pickF rfl hg22 (v := .bool _) rfl) ?_
        refine st (mvB rfl) ?_
        refine sts rfl rfl rfl ?_
        refine sts rfl rfl rfl ?_
        refine sts rfl rfl rfl ?_
        refine st (y_pickF rfl rfl (v := .bool _) rfl) ?_
        refine rg_end ?_
        refine n_then ?_
        refine cnd rfl (fun hc1 => absurd hc1 (by decide)) (fun hc1 => ?_)
        refine wp_skip ?_
        refine n_then ?_
        refine wp_seq ?_
        refine wp_seq ?_
        refine rg ?_
        refine st (mvI rfl) ?_
        refine st (y_geq rfl rfl) ?_
        refine st (mvB rfl) ?_
        refine gspL 49 rfl (fun hg144 => ?_) (fun hg144 => ?_)
        ·
          have hg144n := hg144; try simp only [decide_eq_true_eq, decide_eq_false_iff_not, Bool.not_eq_true', Bool.not_eq_false', Bool.and_eq_true, Bool.or_eq_true, Bool.or_eq_false_iff, Bool.cond_true_right, Bool.cond_false_right, Bool.cond_true_left, Bool.cond_false_left, ne_eq, Decidable.not_not, bne_iff_ne, beq_iff_eq, beq_eq_false_iff_ne, Bool.not_true, Bool.not_false] at hg144n
          refine stg rfl rfl hg144 (mvI rfl) ?_
          refine stg rfl rfl hg144 (mvS rfl) ?_
          refine stg rfl rfl hg144 (y_len Try.underlying35 rfl) ?_
          refine stg rfl rfl hg144 (y_lss rfl rfl) ?_
          refine st (y_pickT rfl hg144 (v := .bool _) rfl) ?_
          refine rg_end ?_
          refine n_then ?_
          refine cnd rfl (fun hc2 => ?_) (fun hc2 => ?_)
          ·
            try simp only [decide_eq_true_eq, decide_eq_false_iff_not, Bool.not_eq_true', Bool.not_eq_false', Bool.and_eq_true, Bool.or_eq_true, Bool.or_eq_false_iff, Bool.cond_true_right, Bool.cond_false_right, Bool.cond_true_left, Bool.cond_false_left, ne_eq, Decidable.not_not, bne_iff_ne, beq_iff_eq, beq_eq_false_iff_ne, Bool.not_true, Bool.not_false] at hc2
            first
            | (have hsg := m3.1 _ (el_mem (l := (el rows (k : Int)).st) (i := r7 - 1) (by omega) (by omega)))
            | skip
            have s0 := hsg.s0
            have s1 := hsg.s1
            refine rg ?_
            refine st (mvS rfl) ?_
            refine st (mvI rfl) ?_
            refine st (y_ix hR sl35 rfl (rfl) rfl (by omega) (by omega)) ?_
            refine st (y_fld fld44_0 rfl) ?_
            refine st (y_lf hR na3 rfl (by omega) (by omega) rfl) ?_
            refine st (y_ixR Try.underlying52 sz4 rfl rfl rfl (by omega) (by omega)) ?_
            refine sd0 (d_se (j := 0) (e' := true) hH sz4 rfl rfl rfl (by omega) (by omega) (Nat.le_of_ble_eq_true rfl) rfl ?_)
            intro w145 hs147 ho146 hH'
            have hrhH := hH.rng
            clear hH; have hH := hH'; clear hH'
            have hz148 := ho146.size
            replace hP := hP.out ho146 (by first | omega | (simp only [blk_some, hi1_some] at *; omega))
            replace hL := hL.out ho146 (by first | omega | (simp only [blk_some, hi1_some] at *; omega))
            replace hE := hE.step ho146 (by first | omega | (simp only [blk_some, hi1_some] at *; omega))
            replace hS := hS.out ho146 (by first | omega | (simp only [blk_some, hi1_some] at *; omega))
            replace hx := hx.out ho146 (by first | omega | (simp only [blk_some, hi1_some] at *; omega))
            replace hlp0 := hlp0.step ho146 (by first | omega | (simp only [blk_some, hi1_some] at *; omega))
            replace hR := hR.out ho146 (by first | omega | (simp only [blk_some, hi1_some] at *; omega))
            refine rg_end ?_
            refine n_then ?_
            refine rg ?_
            refine st (mvS rfl) ?_
            refine st (mvI rfl) ?_
            refine sd (d_bs (bsl22_1 _ _) rfl ?_)
            intro bl152 w149 hbbl152 hs151 ho150 hbl152
            have hz153 := ho150.size
            replace hP := hP.ext ho150
            replace hL := hL.ext ho150
            replace hE := hE.step ho150 (.inl (Nat.le_refl _))
            replace hS := hS.ext ho150
            replace hH := hH.ext ho150
            replace hx := hx.ext ho150
            replace hlp0 := hlp0.step ho150 (.inl (Nat.le_refl _))
            replace hR := hR.ext ho150
            have hrhx := hx.rng
            refine sd (d_app (xs := [(_ : Int)]) hx sl22 infoz3 (by decide) rfl rfl rfl rfl (hbl152) (fun _ => rfl) (by simp; unfold maxLen; omega) (by simp; omega) (by omega) (by omega) ?_)
            intro ax1 cx1 w154 ho155 hx'
            have hs156 := ho155.size
            clear hx; have hx := hx'; clear hx'
            have hz159 := ho155.size
            replace hP := hP.out ho155 (by first | omega | (simp only [blk_some, hi1_some] at *; omega))
            replace hL := hL.out ho155 (by first | omega | (simp only [blk_some, hi1_some] at *; omega))
            replace hE := hE.step ho155 (by first | omega | (simp only [blk_some, hi1_some] at *; omega))
            replace hS := hS.out ho155 (by first | omega | (simp only [blk_some, hi1_some] at *; omega))
            replace hH := hH.out ho155 (by first | omega | (simp only [blk_some, hi1_some] at *; omega))
            replace hlp0 := hlp0.step ho155 (by first | omega | (simp only [blk_some, hi1_some] at *; omega))
            replace hR := hR.out ho155 (by first | omega | (simp only [blk_some, hi1_some] at *; omega))
            have hxr1 := hx.rng
            refine st (asS rfl) ?_
            refine rg_end ?_
            refine n_blk ?_
            refine n_then ?_
            refine rg ?_
            refine st (y_add rfl rfl (by omega)) ?_
            refine st (mvI rfl) ?_
            refine rg_end ?_
            exact n_then ⟨(k + 1, _, _, _, _), _, rfl, same_lk rfl (same_h0), ⟨rfl, rfl, trivial⟩, ⟨hlp0, by omega, at_snoc hxl hxx.2 (by omega), (by first | exact hHl | (rw [List.length_set]; exact hHl)), hS, hH, hx.wide (by omega)⟩, by first | omega | (dsimp only; omega)⟩
          ·
            try simp only [decide_eq_true_eq, decide_eq_false_iff_not, Bool.not_eq_true', Bool.not_eq_false', Bool.and_eq_true, Bool.or_eq_true, Bool.or_eq_false_iff, Bool.cond_true_right, Bool.cond_false_right, Bool.cond_true_left, Bool.cond_false_left, ne_eq, Decidable.not_not, bne_iff_ne, beq_iff_eq, beq_eq_false_iff_ne, Bool.not_true, Bool.not_false] at hc2
            refine wp_skip ?_
            refine n_then ?_
            refine rg ?_
            refine st (mvS rfl) ?_
            refine st (mvI rfl) ?_
            refine sd (d_bs (bsl22_1 _ _) rfl ?_)
            intro bl163 w160 hbbl163 hs162 ho161 hbl163
            have hz164 := ho161.size
            replace hP := hP.ext ho161
            replace hL := hL.ext ho161
            replace hE := hE.step ho161 (.inl (Nat.le_refl _))
            replace hS := hS.ext ho161
            replace hH := hH.ext ho161
            replace hx := hx.ext ho161
            replace hlp0 := hlp0.step ho161 (.inl (Nat.le_refl _))
            replace hR := hR.ext ho161
            have hrhx := hx.rng
            refine sd (d_app (xs := [(_ : Int)]) hx sl22 infoz3 (by decide) rfl rfl rfl rfl (hbl163) (fun _ => rfl) (by simp; unfold maxLen; omega) (by simp; omega) (by omega) (by omega) ?_)
            intro ax1 cx1 w165 ho166 hx'
            have hs167 := ho166.size
            clear hx; have hx := hx'; clear hx'
            have hz170 := ho166.size
            replace hP := hP.out ho166 (by first | omega | (simp only [blk_some, hi1_some] at *; omega))
            replace hL := hL.out ho166 (by first | omega | (simp only [blk_some, hi1_some] at *; omega))
            replace hE := hE.step ho166 (by first | omega | (simp only [blk_some, hi1_some] at *; omega))
            replace hS := hS.out ho166 (by first | omega | (simp only [blk_some, hi1_some] at *; omega))
            replace hH := hH.out ho166 (by first | omega | (simp only [blk_some, hi1_some] at *; omega))
            replace hlp0 := hlp0.step ho166 (by first | omega | (simp only [blk_some, hi1_some] at *; omega))
            replace hR := hR.out ho166 (by first | omega | (simp only [blk_some, hi1_some] at *; omega))
            have hxr1 := hx.rng
            refine st (asS rfl) ?_
            refine rg_end ?_
            refine n_blk ?_
            refine n_then ?_
            refine rg ?_
            refine st (y_add rfl rfl (by omega)) ?_
            refine st (mvI rfl) ?_
            refine rg_end ?_
            exact n_then ⟨(k + 1, _, _, _, _), _, rfl, same_lk rfl (same_h0), ⟨rfl, rfl, trivial⟩, ⟨hlp0, by omega, at_snoc hxl hxx.2 (by omega), (by first | exact hHl | (rw [List.length_set]; exact hHl)), hS, hH, hx.wide (by omega)⟩, by first | omega | (dsimp only; omega)⟩
        ·
          have hg144n := hg144; try simp only [decide_eq_true_eq, decide_eq_false_iff_not, Bool.not_eq_true', Bool.not_eq_false', Bool.and_eq_true, Bool.or_eq_true, Bool.or_eq_false_iff, Bool.cond_true_right, Bool.cond_false_right, Bool.cond_true_left, Bool.cond_false_left, ne_eq, Decidable.not_not, bne_iff_ne, beq_iff_eq, beq_eq_false_iff_ne, Bool.not_true, Bool.not_false] at hg144n
          refine sts rfl rfl hg144 ?_
          refine sts rfl rfl hg144 ?_
          refine sts rfl rfl hg144 ?_
          refine sts rfl rfl hg144 ?_
          refine st (y_pickF rfl hg144 (v := .bool _) rfl) ?_
          refine rg_end ?_
          refine n_then ?_
          refine cnd rfl (fun hc2 => absurd hc2 (by decide)) (fun hc2 => ?_)
          refine wp_skip ?_
          refine n_then ?_
          refine rg ?_
          refine st (mvS rfl) ?_
          refine st (mvI rfl) ?_
          refine sd (d_bs (bsl22_1 _ _) rfl ?_)
          intro bl174 w171 hbbl174 hs173 ho172 hbl174
          have hz175 := ho172.size
          replace hP := hP.ext ho172
          replace hL := hL.ext ho172
          replace hE := hE.step ho172 (.inl (Nat.le_refl _))
          replace hS := hS.ext ho172
          replace hH := hH.ext ho172
          replace hx := hx.ext ho172
          replace hlp0 := hlp0.step ho172 (.inl (Nat.le_refl _))
          replace hR := hR.ext ho172
          have hrhx := hx.rng
          refine sd (d_app (xs := [(_ : Int)]) hx sl22 infoz3 (by decide) rfl rfl rfl rfl (hbl174) (fun _ => rfl) (by simp; unfold maxLen; omega) (by simp; omega) (by omega) (by omega) ?_)
          intro ax1 cx1 w176 ho177 hx'
          have hs178 := ho177.size
          clear hx; have hx := hx'; clear hx'
          have hz181 := ho177.size
          replace hP := hP.out ho177 (by first | omega | (simp only [blk_some, hi1_some] at *; omega))
          replace hL := hL.out ho177 (by first | omega | (simp only [blk_some, hi1_some] at *; omega))
          replace hE := hE.step ho177 (by first | omega | (simp only [blk_some, hi1_some] at *; omega))
          replace hS := hS.out ho177 (by first | omega | (simp only [blk_some, hi1_some] at *; omega))
          replace hH := hH.out ho177 (by first | omega | (simp only [blk_some, hi1_some] at *; omega))
          replace hlp0 := hlp0.step ho177 (by first | omega | (simp only [blk_some, hi1_some] at *; omega))
          replace hR := hR.out ho177 (by first | omega | (simp only [blk_some, hi1_some] at *; omega))
          have hxr1 := hx.rng
          refine st (asS rfl) ?_
          refine rg_end ?_
          refine n_blk ?_
          refine n_then ?_
          refine rg ?_
          refine st (y_add rfl rfl (by omega)) ?_
          refine st (mvI rfl) ?_
          refine rg_end ?_
          exact n_then ⟨(k + 1, _, _, _, _), _, rfl, same_lk rfl (same_h0), ⟨rfl, rfl, trivial⟩, ⟨hlp0, by omega, at_snoc hxl hxx.2 (by omega), (by first | exact hHl | (rw [List.length_set]; exact hHl)), hS, hH, hx.wide (by omega)⟩, by first | omega | (dsimp only; omega)⟩
    ·
      have hg21n := hg21; try simp only [decide_eq_true_eq, decide_eq_false_iff_not, Bool.not_eq_true', Bool.not_eq_false', Bool.and_eq_true, Bool.or_eq_true, Bool.or_eq_false_iff, Bool.cond_true_right, Bool.cond_false_right, Bool.cond_true_left, Bool.cond_false_left, ne_eq, Decidable.not_not, bne_iff_ne, beq_iff_eq, beq_eq_false_iff_ne, Bool.not_true, Bool.not_false] at hg21n
      refine sts rfl rfl hg21 ?_
      refine sts rfl rfl hg21 ?_
      refine sts rfl rfl hg21 ?_
      refine sts rfl rfl hg21 ?_
      refine st (y_pickF rfl hg21 (v := .bool _) rfl) ?_
      refine st (mvB rfl) ?_
      refine sts rfl rfl rfl ?_
      refine sts rfl rfl rfl ?_
      refine sts rfl rfl rfl ?_
      refine sts rfl rfl rfl ?_
      refine sts rfl rfl rfl ?_
      refine sts rfl rfl rfl ?_
      refine sts rfl rfl rfl ?_
      refine st (y_pickF rfl rfl (v := .bool _) rfl) ?_
      refine st (mvB rfl) ?_
      refine sts rfl rfl rfl ?_
      refine sts rfl rfl rfl ?_
      refine sts rfl rfl rfl ?_
      refine st (y_pickF rfl rfl (v := .bool _) rfl) ?_
      refine rg_end ?_
      refine n_then ?_
      refine cnd rfl (fun hc1 => absurd hc1 (by decide)) (fun hc1 => ?_)
      refine wp_skip ?_
      refine n_then ?_
      refine wp_seq ?_
      refine wp_seq ?_
      refine rg ?_
      refine st (mvI rfl) ?_
      refine st (y_geq rfl rfl) ?_
      refine st (mvB rfl) ?_
      refine gspL 49 rfl (fun hg182 => ?_) (fun hg182 => ?_)
      ·
        have hg182n := hg182; try simp only [decide_eq_true_eq, decide_eq_false_iff_not, Bool.not_eq_true', Bool.not_eq_false', Bool.and_eq_true, Bool.or_eq_true, Bool.or_eq_false_iff, Bool.cond_true_right, Bool.cond_false_right, Bool.cond_true_left, Bool.cond_false_left, ne_eq, Decidable.not_not, bne_iff_ne, beq_iff_eq, beq_eq_false_iff_ne, Bool.not_true, Bool.not_false] at hg182n
        refine stg rfl rfl hg182 (mvI rfl) ?_
        refine stg rfl rfl hg182 (mvS rfl) ?_
        refine stg rfl rfl hg182 (y_len Try.underlying35 rfl) ?_
        refine stg rfl rfl hg182 (y_lss rfl rfl) ?_
        refine st (y_pickT rfl hg182 (v := .bool _) rfl) ?_
        refine rg_end ?_
        refine n_then ?_
        refine cnd rfl (fun hc2 => ?_) (fun hc2 => ?_)
        ·
          try simp only [decide_eq_true_eq, decide_eq_false_iff_not, Bool.not_eq_true', Bool.not_eq_false', Bool.and_eq_true, Bool.or_eq_true, Bool.or_eq_false_iff, Bool.cond_true_right, Bool.cond_false_right, Bool.cond_true_left, Bool.cond_false_left, ne_eq, Decidable.not_not, bne_iff_ne, beq_iff_eq, beq_eq_false_iff_ne, Bool.not_true, Bool.not_false] at hc2
          first
          | (have hsg := m3.1 _ (el_mem (l := (el rows (k : Int)).st) (i := r7 - 1) (by omega) (by omega)))
          | skip
          have s0 := hsg.s0
          have s1 := hsg.s1
          refine rg ?_
          refine st (mvS rfl) ?_
          refine st (mvI rfl) ?_
          refine st (y_ix hR sl35 rfl (rfl) rfl (by omega) (by omega)) ?_
          refine st (y_fld fld44_0 rfl) ?_
          refine st (y_lf hR na3 rfl (by omega) (by omega) rfl) ?_
          refine st (y_ixR Try.underlying52 sz4 rfl rfl rfl (by omega) (by omega)) ?_
          refine sd0 (d_se (j := 0) (e' := true) hH sz4 rfl rfl rfl (by omega) (by omega) (Nat.le_of_ble_eq_true rfl) rfl ?_)
          intro w183 hs185 ho184 hH'
          have hrhH := hH.rng
          clear hH; have hH := hH'; clear hH'
          have hz186 := ho184.size
          replace hP := hP.out ho184 (by first | omega | (simp only [blk_some, hi1_some] at *; omega))
          replace hL := hL.out ho184 (by first | omega | (simp only [blk_some, hi1_some] at *; omega))
          replace hE := hE.step ho184 (by first | omega | (simp only [blk_some, hi1_some] at *; omega))
          replace hS := hS.out ho184 (by first | omega | (simp only [blk_some, hi1_some] at *; omega))
          replace hx := hx.out ho184 (by first | omega | (simp only [blk_some, hi1_some] at *; omega))
          replace hlp0 := hlp0.step ho184 (by first | omega | (simp only [blk_some, hi1_some] at *; omega))
          replace hR := hR.out ho184 (by first | omega | (simp only [blk_some, hi1_some] at *; omega))
          refine rg_end ?_
          refine n_then ?_
          refine rg ?_
          refine st (mvS rfl) ?_
          refine st (mvI rfl) ?_
          refine sd (d_bs (bsl22_1 _ _) rfl ?_)
          intro bl190 w187 hbbl190 hs189 ho188 hbl190
          have hz191 := ho188.size
          replace hP := hP.ext ho188
          replace hL := hL.ext ho188
          replace hE := hE.step ho188 (.inl (Nat.le_refl _))
          replace hS := hS.ext ho188
          replace hH := hH.ext ho188
          replace hx := hx.ext ho188
          replace hlp0 := hlp0.step ho188 (.inl (Nat.le_refl _))
          replace hR := hR.ext ho188
          have hrhx := hx.rng
          refine sd (d_app (xs := [(_ : Int)]) hx sl22 infoz3 (by decide) rfl rfl rfl rfl (hbl190) (fun _ => rfl) (by simp; unfold maxLen; omega) (by simp; omega) (by omega) (by omega) ?_)
          intro ax1 cx1 w192 ho193 hx'
          have hs194 := ho193.size
          clear hx; have hx := hx'; clear hx'
          have hz197 := ho193.size
          replace hP := hP.out ho193 (by first | omega | (simp only [blk_some, hi1_some] at *; omega))
          replace hL := hL.out ho193 (by first | omega | (simp only [blk_some, hi1_some] at *; omega))
          replace hE := hE.step ho193 (by first | omega | (simp only [blk_some, hi1_some] at *; omega))
          replace hS := hS.out ho193 (by first | omega | (simp only [blk_some, hi1_some] at *; omega))
          replace hH := hH.out ho193 (by first | omega | (simp only [blk_some, hi1_some] at *; omega))
          replace hlp0 := hlp0.step ho193 (by first | omega | (simp only [blk_some, hi1_some] at *; omega))
          replace hR := hR.out ho193 (by first | omega | (simp only [blk_some, hi1_some] at *; omega))
          have hxr1 := hx.rng
          refine st (asS rfl) ?_
          refine rg_end ?_
          refine n_blk ?_
          refine n_then ?_
          refine rg ?_
          refine st (y_add rfl rfl (by omega)) ?_
          refine st (mvI rfl) ?_
          refine rg_end ?_
          exact n_then ⟨(k + 1, _, _, _, _), _, rfl, same_lk rfl (same_h0), ⟨rfl, rfl, trivial⟩, ⟨hlp0, by omega, at_snoc hxl hxx.2 (by omega), (by first | exact hHl | (rw [List.length_set]; exact hHl)), hS, hH, hx.wide (by omega)⟩, by first | omega | (dsimp only; omega)⟩
        ·
          try simp only [decide_eq_true_eq, decide_eq_false_iff_not, Bool.not_eq_true', Bool.not_eq_false', Bool.and_eq_true, Bool.or_eq_true, Bool.or_eq_false_iff, Bool.cond_true_right, Bool.cond_false_right, Bool.cond_true_left, Bool.cond_false_left, ne_eq, Decidable.not_not, bne_iff_ne, beq_iff_eq, beq_eq_false_iff_ne, Bool.not_true, Bool.not_false] at hc2
          refine wp_skip ?_
          refine n_then ?_
          refine rg ?_
          refine st (mvS rfl) ?_
          refine st (mvI rfl) ?_
          refine sd (d_bs (bsl22_1 _ _) rfl ?_)
          intro bl201 w198 hbbl201 hs200 ho199 hbl201
          have hz202 := ho199.size
          replace hP := hP.ext ho199
          replace hL := hL.ext ho199
          replace hE := hE.step ho199 (.inl (Nat.le_refl _))
          replace hS := hS.ext ho199
          replace hH := hH.ext ho199
          replace hx := hx.ext ho199
          replace hlp0 := hlp0.step ho199 (.inl (Nat.le_refl _))
          replace hR := hR.ext ho199
          have hrhx := hx.rng
          refine sd (d_app (xs := [(_ : Int)]) hx sl22 infoz3 (by decide) rfl rfl rfl rfl (hbl201) (fun _ => rfl) (by simp; unfold maxLen; omega) (by simp; omega) (by omega) (by omega) ?_)
          intro ax1 cx1 w203 ho204 hx'
          have hs205 := ho204.size
          clear hx; have hx := hx'; clear hx'
          have hz208 := ho204.size
          replace hP := hP.out ho204 (by first | omega | (simp only [blk_some, hi1_some] at *; omega))
          replace hL := hL.out ho204 (by first | omega | (simp only [blk_some, hi1_some] at *; omega))
          replace hE := hE.step ho204 (by first | omega | (simp only [blk_some, hi1_some] at *; omega))
          replace hS := hS.out ho204 (by first | omega | (simp only [blk_some, hi1_some] at *; omega))
          replace hH := hH.out ho204 (by first | omega | (simp only [blk_some, hi1_some] at *; omega))
          replace hlp0 := hlp0.step ho204 (by first | omega | (simp only [blk_some, hi1_some] at *; omega))
          replace hR := hR.out ho204 (by first | omega | (simp only [blk_some, hi1_some] at *; omega))
          have hxr1 := hx.rng
          refine st (asS rfl) ?_
          refine rg_end ?_
          refine n_blk ?_
          refine n_then ?_
          refine rg ?_
          refine st (y_add rfl rfl (by omega)) ?_
          refine st (mvI rfl) ?_
          refine rg_end ?_
          exact n_then ⟨(k + 1, _, _, _, _), _, rfl, same_lk rfl (same_h0), ⟨rfl, rfl, trivial⟩, ⟨hlp0, by omega, at_snoc hxl hxx.2 (by omega), (by first | exact hHl | (rw [List.length_set]; exact hHl)), hS, hH, hx.wide (by omega)⟩, by first | omega | (dsimp only; omega)⟩
      ·
        have hg182n := hg182; try simp only [decide_eq_true_eq, decide_eq_false_iff_not, Bool.not_eq_true', Bool.not_eq_false', Bool.and_eq_true, Bool.or_eq_true, Bool.or_eq_false_iff, Bool.cond_true_right, Bool.cond_false_right, Bool.cond_true_left, Bool.cond_false_left, ne_eq, Decidable.not_not, bne_iff_ne, beq_iff_eq, beq_eq_false_iff_ne, Bool.not_true, Bool.not_false] at hg182n
        refine sts rfl rfl hg182 ?_
        refine sts rfl rfl hg182 ?_
        refine sts rfl rfl hg182 ?_
        refine sts rfl rfl hg182 ?_
        refine st (y_pickF rfl hg182 (v := .bool _) rfl) ?_
        refine rg_end ?_
        refine n_then ?_
        refine cnd rfl (fun hc2 => absurd hc2 (by decide)) (fun hc2 => ?_)
        refine wp_skip ?_
        refine n_then ?_
        refine rg ?_
        refine st (mvS rfl) ?_
        refine st (mvI rfl) ?_
        refine sd (d_bs (bsl22_1 _ _) rfl ?_)
        intro bl212 w209 hbbl212 hs211 ho210 hbl212
        have hz213 := ho210.size
        replace hP := hP.ext ho210
        replace hL := hL.ext ho210
        replace hE := hE.step ho210 (.inl (Nat.le_refl _))
        replace hS := hS.ext ho210
        replace hH := hH.ext ho210
        replace hx := hx.ext ho210
        replace hlp0 := hlp0.step ho210 (.inl (Nat.le_refl _))
        replace hR := hR.ext ho210
        have hrhx := hx.rng
        refine sd (d_app (xs := [(_ : Int)]) hx sl22 infoz3 (by decide) rfl rfl rfl rfl (hbl212) (fun _ => rfl) (by simp; unfold maxLen; omega) (by simp; omega) (by omega) (by omega) ?_)
        intro ax1 cx1 w214 ho215 hx'
        have hs216 := ho215.size
        clear hx; have hx := hx'; clear hx'
        have hz219 := ho215.size
        replace hP := hP.out ho215 (by first | omega | (simp only [blk_some, hi1_some] at *; omega))
        replace hL := hL.out ho215 (by first | omega | (simp only [blk_some, hi1_some] at *; omega))
        replace hE := hE.step ho215 (by first | omega | (simp only [blk_some, hi1_some] at *; omega))
        replace hS := hS.out ho215 (by first | omega | (simp only [blk_some, hi1_some] at *; omega))
        replace hH := hH.out ho215 (by first | omega | (simp only [blk_some, hi1_some] at *; omega))
        replace hlp0 := hlp0.step ho215 (by first | omega | (simp only [blk_some, hi1_some] at *; omega))
        replace hR := hR.out ho215 (by first | omega | (simp only [blk_some, hi1_some] at *; omega))
        have hxr1 := hx.rng
        refine st (asS rfl) ?_
        refine rg_end ?_
        refine n_blk ?_
        refine n_then ?_
        refine rg ?_
        refine st (y_add rfl rfl (by omega)) ?_
        refine st (mvI rfl) ?_
        refine rg_end ?_
        exact n_then ⟨(k + 1, _, _, _, _), _, rfl, same_lk rfl (same_h0), ⟨rfl, rfl, trivial⟩, ⟨hlp0, by omega, at_snoc hxl hxx.2 (by omega), (by first | exact hHl | (rw [List.length_set]; exact hHl)), hS, hH, hx.wide (by omega)⟩, by first | omega | (dsimp only; omega)⟩
  ·
    try simp only [decide_eq_true_eq, decide_eq_false_iff_not, Bool.not_eq_true', Bool.not_eq_false', Bool.and_eq_true, Bool.or_eq_true, Bool.or_eq_false_iff, Bool.cond_true_right, Bool.cond_false_right, Bool.cond_true_left, Bool.cond_false_left, ne_eq, Decidable.not_not, bne_iff_ne, beq_iff_eq, beq_eq_false_iff_ne, Bool.not_true, Bool.not_false] at hc0
    have hke : k = rows.length := by omega
    have hcap := hx.lenLe
    refine wp_exit ?_
    refine e_then (e_then (e_blk (?_)))
    refine n_then ?_
    refine wp_seq ?_
    refine rg ?_
    refine st (mvS rfl) ?_
    refine st (asS rfl) ?_
    refine rg_end ?_
    refine n_then ?_
    refine wp_ret ?_
    refine ret1 (v := (.slice _ _ _)) Try.results14 rfl ?_
    exact ⟨ax, cx, x, rfl, ⟨by omega, fun t ht => hxx.2 t (by omega)⟩, hcap, (hx.lower (by omega)).wide (by omega), hE⟩

theorem exR_pts {a b : Option Addr} {r : Pw} {s : Sg} (hr : r ∈ exR a b) (hs : s ∈ r.st) : s.pts = [] := by
  have hr' : r = ⟨a, 2, [⟨1, none, 0, [], 0, 0⟩, ⟨2, none, 0, [], 0, 0⟩]⟩ ∨ r = ⟨b, 2, [⟨2, none, 0, [], 0, 0⟩, ⟨1, none, 0, [], 0, 0⟩]⟩ := by simpa [exR] using hr
  rcases hr' with rfl | rfl
  · have : s = ⟨1, none, 0, [], 0, 0⟩ ∨ s = ⟨2, none, 0, [], 0, 0⟩ := by simpa using hs
    rcases this with rfl | rfl <;> rfl
  · have : s = ⟨2, none, 0, [], 0, 0⟩ ∨ s = ⟨1, none, 0, [], 0, 0⟩ := by simpa using hs
    rcases this with rfl | rfl <;> rfl

set_option maxRecDepth 100000 in
theorem law36_example_ok (w : World) : Cal Try.prog 27 [] w (fun v w' => ∃ a b ap cp, v = .slice ap (exR a b).length cp ∧ PIn 0 w'.heap.size w' ap (exR a b) ∧ Ext w w') := by
  have hE : Out 0 0 w w := Out.refl _ _ w
  refine enter Try.func27 rfl Try.ntmps27 rfl ?_
  refine wp_seq ?_
  refine rg ?_
  refine st (asS rfl) ?_
  refine rg_end ?_
  refine n_then ?_
  refine wp_seq ?_
  refine rg ?_
  refine st (y_build (bld44_0 _ _) rfl) ?_
  refine st (y_build (bld44_0 _ _) rfl) ?_
  refine sd (d_bs (bsl35_2 _ _ _ _ _ _ _ _ _ _ _ _ _) rfl ?_)
  intro b1 w1 hbb1 hs3 ho2 hb1
  have hr1 : Sl encSg 4 b1 (b1 + 1) w1 (some ⟨b1, 0, none⟩) ([⟨1, none, 0, [], 0, 0⟩, ⟨2, none, 0, [], 0, 0⟩] : List Sg) := Blk.sl (l := ([⟨1, none, 0, [], 0, 0⟩, ⟨2, none, 0, [], 0, 0⟩] : List Sg)) hb1 (fun _ => rfl) (Nat.le_refl _) (Nat.lt_succ_self _)
  have hz4 := ho2.size
  replace hE := hE.step ho2 (.inl (Nat.le_refl _))
  refine st (y_build (bld44_0 _ _) rfl) ?_
  refine st (y_build (bld44_0 _ _) rfl) ?_
  refine sd (d_bs (bsl35_2 _ _ _ _ _ _ _ _ _ _ _ _ _) rfl ?_)
  intro b2 w5 hbb2 hs7 ho6 hb2
  have hr2 : Sl encSg 4 b2 (b2 + 1) w5 (some ⟨b2, 0, none⟩) ([⟨2, none, 0, [], 0, 0⟩, ⟨1, none, 0, [], 0, 0⟩] : List Sg) := Blk.sl (l := ([⟨2, none, 0, [], 0, 0⟩, ⟨1, none, 0, [], 0, 0⟩] : List Sg)) hb2 (fun _ => rfl) (Nat.le_refl _) (Nat.lt_succ_self _)
  have hz8 := ho6.size
  replace hE := hE.step ho6 (.inl (Nat.le_refl _))
  replace hr1 := hr1.ext ho6
  refine sd (d_bs (bsl23_2 _ _ _ _ _ _ _) rfl ?_)
  intro b3 w9 hbb3 hs11 ho10 hb3
  have hr3 : Sl encPw 1 b3 (b3 + 1) w9 (some ⟨b3, 0, none⟩) (exR (some ⟨b1, 0, none⟩) (some ⟨b2, 0, none⟩)) := Blk.sl (l := (exR (some ⟨b1, 0, none⟩) (some ⟨b2, 0, none⟩))) hb3 (fun _ => rfl) (Nat.le_refl _) (Nat.lt_succ_self _)
  have hz12 := ho10.size
  replace hE := hE.step ho10 (.inl (Nat.le_refl _))
  replace hr1 := hr1.ext ho10
  replace hr2 := hr2.ext ho10
  refine st (asS rfl) ?_
  refine rg_end ?_
  refine n_then ?_
  refine wp_ret ?_
  refine ret1 (v := (.slice _ _ _)) Try.results27 rfl ?_
  refine ⟨some ⟨b1, 0, none⟩, some ⟨b2, 0, none⟩, _, _, rfl, ⟨hr3.wide (Nat.zero_le _) (by omega), fun r hr => ?_, fun r hr s hs => ?_⟩, hE⟩
  · have hr' : r = ⟨some ⟨b1, 0, none⟩, 2, ([⟨1, none, 0, [], 0, 0⟩, ⟨2, none, 0, [], 0, 0⟩] : List Sg)⟩ ∨ r = ⟨some ⟨b2, 0, none⟩, 2, ([⟨2, none, 0, [], 0, 0⟩, ⟨1, none, 0, [], 0, 0⟩] : List Sg)⟩ := by simpa [exR] using hr
    rcases hr' with rfl | rfl
    · exact hr1.wide (Nat.zero_le _) (by omega)
    · exact hr2.wide (Nat.zero_le _) (by omega)
  · have hp : s.pts = [] := by
      have := ((ex_sm _ _).row r hr).2.2.1 s hs
      have h5 := exR_pts hr hs
      exact h5
    rw [hp]; exact ⟨fun q => absurd rfl q, fun i x hx => by simp at hx⟩

set_option maxHeartbeats 1000000 in
set_option maxRecDepth 100000 in
theorem law36_awake_ok (w : World) : Cal Try.prog 16 [] w (fun v w' => v = .bool true ∧ Ext w w') := by
  have hE : Out 0 0 w w := Out.refl _ _ w
  refine enter Try.func16 rfl Try.ntmps16 rfl ?_
  refine wp_seq ?_
  refine rg ?_
  refine st (asB rfl) ?_
  refine rg_end ?_
  refine n_then ?_
  refine wp_seq ?_
  refine rg ?_
  refine sc cl27 (law36_example_ok _) rfl ?_
  rintro v5 w1 ⟨ea1, eb1, ep1, ec1, rfl, hP1, ho2⟩
  have hz6 := ho2.size
  replace hE := hE.step ho2 (.inl (Nat.le_refl _))
  refine sd (d_bs (bsl22_2 _ _ _) rfl ?_)
  intro bl10 w7 hbbl10 hs9 ho8 hbl10
  have hA1 : Sl encI 1 bl10 (bl10 + 1) w7 (some ⟨bl10, 0, none⟩) ([-1, 0] : List Int) := Blk.sl (l := ([-1, 0] : List Int)) hbl10 (fun _ => rfl) (Nat.le_refl _) (Nat.lt_succ_self _)
  have hz11 := ho8.size
  replace hE := hE.step ho8 (.inl (Nat.le_refl _))
  replace hP1 := hP1.ext ho8
  refine sc cl17 (dead_Search_ok (exR ea1 eb1) _ _ _ _ [-1, 0] _ _ _ _ 50 _ hP1 (by simp [exR]) hA1 (ex_len _ _) (by simp)) rfl ?_
  rintro v16 w12 ⟨ads, cs, ls, ns, es, e0s, rfl, hcks, hsrs, hOs, ho13⟩
  have hz := ex_ck hcks (by omega) (by omega) (ex_n1 _ _)
  rw [hz] at hsrs
  have hl5 : ls = [1, 1, 0, 0, 0] := (congrArg Prod.fst hsrs).trans (ex_s1 _ _)
  have he5 : es = 0 := (congrArg (fun q => q.2.2) hsrs).trans (ex_s2 _ _)
  have hz17 := ho13.size
  replace hE := hE.step ho13 (.inl (Nat.le_refl _))
  replace hP1 := hP1.ext ho13
  replace hA1 := hA1.ext ho13
  refine st (mvT rfl) ?_
  refine st (y_ext rfl rfl) ?_
  refine st (y_ext rfl rfl) ?_
  refine st (y_ext rfl rfl) ?_
  refine st (asS rfl) ?_
  refine st (asI rfl) ?_
  refine st (asI rfl) ?_
  refine rg_end ?_
  refine n_then ?_
  refine wp_seq ?_
  refine rg ?_
  refine st (mvI rfl) ?_
  refine st (y_eql rfl rfl) ?_
  refine st (mvB rfl) ?_
  refine gspL 13 rfl (fun hg18 => ?_) (fun hg18 => ?_)
  ·
    have hg18n := hg18; try simp only [decide_eq_true_eq, decide_eq_false_iff_not, Bool.not_eq_true', Bool.not_eq_false', Bool.and_eq_true, Bool.or_eq_true, Bool.or_eq_false_iff, Bool.cond_true_right, Bool.cond_false_right, Bool.cond_true_left, Bool.cond_false_left, ne_eq, Decidable.not_not, bne_iff_ne, beq_iff_eq, beq_eq_false_iff_ne, Bool.not_true, Bool.not_false] at hg18n
    refine stg rfl rfl hg18 (mvS rfl) ?_
    refine sdg rfl rfl hg18 (d_bs (bsl22_5 _ _ _ _ _ _) rfl ?_)
    intro bl22 w19 hbbl22 hs21 ho20 hbl22
    have hA2 : Sl encI 1 bl22 (bl22 + 1) w19 (some ⟨bl22, 0, none⟩) ([1, 1, 0, 0, 0] : List Int) := Blk.sl (l := ([1, 1, 0, 0, 0] : List Int)) hbl22 (fun _ => rfl) (Nat.le_refl _) (Nat.lt_succ_self _)
    have hz23 := ho20.size
    replace hE := hE.step ho20 (.inl (Nat.le_refl _))
    replace hP1 := hP1.ext ho20
    replace hA1 := hA1.ext ho20
    replace hOs := hOs.ext ho20
    refine scg rfl rfl hg18 cl28 (keep_Same_int_ok ls [1, 1, 0, 0, 0] _ _ _ _ _ _ _ _ _ (Ow.sl hOs) hA2 (by rw [hl5]; simp)) rfl ?_
    rintro v28 w24 ⟨rfl, ho25⟩
    have hz29 := ho25.size
    replace hE := hE.step ho25 (.inl (Nat.le_refl _))
    replace hP1 := hP1.ext ho25
    replace hA1 := hA1.ext ho25
    replace hOs := hOs.ext ho25
    replace hA2 := hA2.ext ho25
    refine st (y_pickT rfl hg18 (v := .bool _) rfl) ?_
    refine st (mvB rfl) ?_
    refine gspL 18 rfl (fun hg30 => ?_) (fun hg30 => ?_)
    ·
      have hg30n := hg30; try simp only [decide_eq_true_eq, decide_eq_false_iff_not, Bool.not_eq_true', Bool.not_eq_false', Bool.and_eq_true, Bool.or_eq_true, Bool.or_eq_false_iff, Bool.cond_true_right, Bool.cond_false_right, Bool.cond_true_left, Bool.cond_false_left, ne_eq, Decidable.not_not, bne_iff_ne, beq_iff_eq, beq_eq_false_iff_ne, Bool.not_true, Bool.not_false] at hg30n
      refine scg rfl rfl hg30 cl27 (law36_example_ok _) rfl ?_
      rintro v35 w31 ⟨ea2, eb2, ep2, ec2, rfl, hP2, ho32⟩
      have hz36 := ho32.size
      replace hE := hE.step ho32 (.inl (Nat.le_refl _))
      replace hP1 := hP1.ext ho32
      replace hA1 := hA1.ext ho32
      replace hOs := hOs.ext ho32
      replace hA2 := hA2.ext ho32
      refine sdg rfl rfl hg30 (d_bs (bsl22_2 _ _ _) rfl ?_)
      intro bl40 w37 hbbl40 hs39 ho38 hbl40
      have hA3 : Sl encI 1 bl40 (bl40 + 1) w37 (some ⟨bl40, 0, none⟩) ([0, 0] : List Int) := Blk.sl (l := ([0, 0] : List Int)) hbl40 (fun _ => rfl) (Nat.le_refl _) (Nat.lt_succ_self _)
      have hz41 := ho38.size
      replace hE := hE.step ho38 (.inl (Nat.le_refl _))
      replace hP1 := hP1.ext ho38
      replace hA1 := hA1.ext ho38
      replace hOs := hOs.ext ho38
      replace hA2 := hA2.ext ho38
      replace hP2 := hP2.ext ho38
      refine scg rfl rfl hg30 cl31 (dead_Check_ok (exR ea2 eb2) _ _ _ _ [0, 0] _ _ _ _ _ hP2 (by simp [exR]) hA3 (ex_len _ _) (by simp)) rfl ?_
      rintro v46 w42 ⟨e3, rfl, hck3, ho43⟩
      have hz3 := ex_ck hck3 (by omega) (by omega) (ex_n2 _ _)
      have hz47 := ho43.size
      replace hE := hE.step ho43 (.inl (Nat.le_refl _))
      replace hP1 := hP1.ext ho43
      replace hA1 := hA1.ext ho43
      replace hOs := hOs.ext ho43
      replace hA2 := hA2.ext ho43
      replace hP2 := hP2.ext ho43
      replace hA3 := hA3.ext ho43
      refine stg rfl rfl hg30 (y_eql rfl rfl) ?_
      refine st (y_pickT rfl hg30 (v := .bool _) rfl) ?_
      refine st (asB rfl) ?_
      refine rg_end ?_
      refine n_then ?_
      refine wp_ret ?_
      refine ret1 (v := (.bool _)) Try.results16 rfl ?_
      exact ⟨vb (by simp [hz3]), hE⟩
    ·
      have hg30n := hg30; try simp only [decide_eq_true_eq, decide_eq_false_iff_not, Bool.not_eq_true', Bool.not_eq_false', Bool.and_eq_true, Bool.or_eq_true, Bool.or_eq_false_iff, Bool.cond_true_right, Bool.cond_false_right, Bool.cond_true_left, Bool.cond_false_left, ne_eq, Decidable.not_not, bne_iff_ne, beq_iff_eq, beq_eq_false_iff_ne, Bool.not_true, Bool.not_false] at hg30n
      exact absurd (decide_eq_true hl5) (by rw [hg30]; decide)
  ·
    have hg18n := hg18; try simp only [decide_eq_true_eq, decide_eq_false_iff_not, Bool.not_eq_true', Bool.not_eq_false', Bool.and_eq_true, Bool.or_eq_true, Bool.or_eq_false_iff, Bool.cond_true_right, Bool.cond_false_right, Bool.cond_true_left, Bool.cond_false_left, ne_eq, Decidable.not_not, bne_iff_ne, beq_iff_eq, beq_eq_false_iff_ne, Bool.not_true, Bool.not_false] at hg18n
    exact absurd (decide_eq_true he5) (by rw [hg18]; decide)
end Go.Proofs.Yteicgnmggkhlbaa
