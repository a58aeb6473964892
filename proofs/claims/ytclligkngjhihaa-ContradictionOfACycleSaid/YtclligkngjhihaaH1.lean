/-
  Walks of the functions, printed by a program out of the code and the loops' relations.
-/
import Derived.Test.YtclligkngjhihaaWkD
import Derived.Test.YtclligkngjhihaaProg
import Derived.KernelRfl
import Derived.Test.YtclligkngjhihaaE9
import Derived.Test.YtclligkngjhihaaCx
namespace Go.Proofs.Ytclligkngjhihaa
open Go.Wk Go.RowKit
set_option linter.unusedVariables false
set_option linter.unusedSimpArgs false
theorem cl61 : Callable Try.prog 61 := ⟨Try.call61⟩
theorem fld78_0 : FieldOf Try.prog 78 0 0 := fun b o w => by simp [Instr.fieldAt, fieldPlace, Instr.sureAddr, Addr.add_lit]
theorem fld78_1 : FieldOf Try.prog 78 1 1 := fun b o w => by simp [Instr.fieldAt, fieldPlace, Instr.sureAddr, Addr.add_lit]

set_option maxRecDepth 100000 in
theorem con_members_ok (ab : Option Addr) (cb : Nat) (b : List Bool) (lb hb : Nat) (w : World) (hB : Sl encB 1 lb hb w ab b) (hn : (b.length : Int) ≤ 1000000) : Cal Try.prog 43 [.slice ab b.length cb] w (fun v w' => ∃ ad c, v = .slice ad (setB b).length c ∧ (setB b).length ≤ c ∧ Ints w.heap.size w'.heap.size w' ad (setB b) ∧ Ext w w') := by
 replace hB := Sl.full (fun _ => by simp [encB]) hB
 have hE : Out 0 0 w w := Out.refl _ _ w
 refine enter Try.func43 rfl Try.ntmps43 rfl ?_
 refine wp_seq ?_
 refine rg ?_
 refine st (asS rfl) ?_
 refine rg_end ?_
 refine n_then ?_
 refine wp_seq ?_
 refine rg ?_
 refine st (asS rfl) ?_
 refine rg_end ?_
 refine n_then ?_
 refine wp_seq ?_
 refine wp_seq ?_
 refine rg ?_
 refine st (mvS rfl) ?_
 refine st (y_len Try.underlying81 rfl) ?_
 refine st (mvI rfl) ?_
 refine rg_end ?_
 refine n_then ?_
 refine wp_block ?_
 refine lp (γ := Nat × List Int × Option Addr × Nat) [3, 4, 5, 8, 9, 10, 11, 12, 13, 14, 15, 16, 17, 18] (fun ⟨k, ls, ao, co⟩ => [(8, .int .i64 (k : Int)), (3, .slice ao ls.length co)]) (fun ⟨k, ls, ao, co⟩ w_ => Ext w w_ ∧ (k : Int) ≤ b.length ∧ ls = setTo b k ∧ Ow 3 encI 1 w.heap.size w_.heap.size w_ ao co ls) (fun ⟨k, ls, ao, co⟩ => b.length - k) (0, [], none, 0) ⟨rfl, rfl, trivial⟩ ⟨Out.refl _ _ _, by simp, by simp [setTo], Ow.nil (fun _ => rfl)⟩ ?_
 rintro ⟨k, ls, ao, co⟩ hav_ w1 ⟨ho2, hk, hst, hO⟩
 have hlp0 := ho2
 have hz3 := ho2.size
 replace hB := hB.ext ho2
 replace hE := hE.step ho2 (.inl (Nat.le_refl _))
 refine wp_seq ?_
 refine rg ?_
 refine st (y_lss rfl rfl) ?_
 refine rg_end ?_
 refine n_then ?_
 refine wp_seq ?_
 refine cnd rfl (fun hc0 => ?_) (fun hc0 => ?_)
 ·
  try simp only [nm] at hc0
  have hsl := setTo_len b k
  rw [← hst] at hsl
  refine wp_skip ?_
  refine n_then ?_
  refine wp_seq ?_
  refine wp_block ?_
  refine wp_seq ?_
  refine rg ?_
  refine st (mvI rfl) ?_
  refine st (y_ix hB sl81 rfl (rfl) rfl (by omega) (by omega)) ?_
  refine st (y_le hB na4 rfl (by omega) (by omega) rfl) ?_
  refine st (asI rfl) ?_
  refine st (asB rfl) ?_
  refine rg_end ?_
  refine n_then ?_
  refine wp_seq ?_
  refine rg ?_
  refine st (mvB rfl) ?_
  refine rg_end ?_
  refine n_then ?_
  refine cnd rfl (fun hc1 => ?_) (fun hc1 => ?_)
  ·
   try simp only [nm] at hc1
   refine rg ?_
   refine st (mvS rfl) ?_
   refine st (mvI rfl) ?_
   refine sd (d_bs (bsl22_1 _ _) rfl ?_)
   intro bl7 w4 hbbl7 hs6 ho5 hbl7
   have hz8 := ho5.size
   replace hB := hB.ext ho5
   replace hE := hE.step ho5 (.inl (Nat.le_refl _))
   replace hO := hO.ext ho5
   replace hlp0 := hlp0.step ho5 (.inl (Nat.le_refl _))
   have hrhO := hO.rng
   refine sd (d_app (xs := [(k : Int)]) hO sl22 infoz3 (by decide) rfl rfl rfl rfl (hbl7) (fun _ => rfl) (by simp; unfold maxLen; omega) (by simp; omega) (by omega) (by omega) ?_)
   intro ao1 co1 w9 ho10 hO'
   have hs11 := ho10.size
   clear hO; have hO := hO'; clear hO'
   have hz14 := ho10.size
   replace hB := hB.out ho10 (by first | omega | (simp only [blk_some, hi1_some] at *; omega))
   replace hE := hE.step ho10 (by first | omega | (simp only [blk_some, hi1_some] at *; omega))
   replace hlp0 := hlp0.step ho10 (by first | omega | (simp only [blk_some, hi1_some] at *; omega))
   refine st (asS rfl) ?_
   refine rg_end ?_
   refine n_blk ?_
   refine n_then ?_
   refine rg ?_
   refine st (y_add rfl rfl (by omega)) ?_
   refine st (mvI rfl) ?_
   refine rg_end ?_
   exact n_then ⟨(k + 1, _, _, _), _, rfl, same_lk rfl (same_h0), ⟨rfl, rfl, trivial⟩, ⟨hlp0, by omega, by rw [setTo_step]; simp [hc1, hst], hO.wide (by omega)⟩, by first | omega | (dsimp only; omega)⟩
  ·
   try simp only [nm] at hc1
   refine wp_skip ?_
   refine n_blk ?_
   refine n_then ?_
   refine rg ?_
   refine st (y_add rfl rfl (by omega)) ?_
   refine st (mvI rfl) ?_
   refine rg_end ?_
   exact n_then ⟨(k + 1, _, _, _), _, rfl, same_lk rfl (same_h0), ⟨rfl, rfl, trivial⟩, ⟨hlp0, by omega, by rw [setTo_step]; simp [hc1, hst], hO.wide (by omega)⟩, by first | omega | (dsimp only; omega)⟩
 ·
  try simp only [nm] at hc0
  have hfull : setTo b k = setB b := by unfold setB; congr 1; omega
  rw [hfull] at hst
  subst hst
  refine wp_exit ?_
  refine e_then (e_then (e_blk (?_)))
  refine n_then ?_
  refine wp_seq ?_
  refine rg ?_
  refine st (mvS rfl) ?_
  refine st (asS rfl) ?_
  refine rg_end ?_
  refine n_then ?_
  refine wp_ret ?_
  refine ret1 (v := (.slice _ _ _)) Try.results43 rfl ?_
  exact ⟨ao, co, rfl, hO.lenLe, Sl.wide (Ow.sl hO) (by omega) (by omega), hE⟩

/-- What one search of several comes to: the times, whether there are any, the error, what is left. -/
def sfE (N : Net) (L : Int) : Int := if L = 0 then 15 else if findE N false L = 15 then 15 else 0
def sfT (N : Net) (L : Int) : List Int := if sfE N L = 0 then findT N false L else []
def sfB (N : Net) (L : Int) : Bool := decide (sfE N L = 0 ∧ findE N false L = 0)
def sfU (N : Net) (L : Int) : Int := if sfE N L = 0 then findU N false L else 0

set_option maxRecDepth 100000 in
theorem con_feasible_ok (N : Net) (A : NetA) (lo hi : Nat) (bs : Nat) (L U : Int) (w : World) (hN : NetIn lo hi w N A) (hbs : Blk w bs [.int .i64 L, .int .i64 U]) (hL : 0 ≤ L ∧ L ≤ 1048576) (hU : 0 ≤ U ∧ U ≤ 1048576) (hd : hi ≤ bs ∨ bs < lo) : Cal Try.prog 42 [.pointer (some ⟨bs, 0, none⟩), netV N A] w (fun v w' => ∃ ad c, v = .tuple #[.slice ad (sfT N L).length c, .bool (sfB N L), .int .i64 (sfE N L)] ∧ Ints w.heap.size w'.heap.size w' ad (sfT N L) ∧ Blk w' bs [.int .i64 (L - sfU N L), .int .i64 (U + sfU N L)] ∧ Out bs (bs + 1) w w') := by
 have hbl := hbs.lt
 have hE : Out bs (bs + 1) w w := Out.refl _ _ w
 refine enter Try.func42 rfl Try.ntmps42 rfl ?_
 refine wp_seq ?_
 refine rg ?_
 refine sd (d_boxA rfl ?_)
 intro b3 w1 hbb3 hs3 ho2 hb3
 have hz4 := ho2.size
 replace hN := hN.ext ho2
 replace hbs := hbs.ext ho2
 replace hE := hE.step ho2 (.inl (Nat.le_refl _))
 refine st (asS rfl) ?_
 refine st (asB rfl) ?_
 refine st (asI rfl) ?_
 refine rg_end ?_
 refine n_then ?_
 refine wp_seq ?_
 refine wp_seq ?_
 refine rg ?_
 refine st (mvP rfl) ?_
 refine st (y_nil rfl) ?_
 refine st (y_fld fld78_0 rfl) ?_
 refine st (y_lb hbs na3 rfl rfl) ?_
 refine st (y_eql rfl rfl) ?_
 refine rg_end ?_
 refine n_then ?_
 refine cnd rfl (fun hc0 => ?_) (fun hc0 => ?_)
 ·
  try simp only [nm] at hc0
  have e1 : sfE N L = 15 := by unfold sfE; rw [if_pos hc0]
  refine wp_seq ?_
  refine rg ?_
  refine st (asS rfl) ?_
  refine st (asB rfl) ?_
  refine st (asI rfl) ?_
  refine rg_end ?_
  refine n_then ?_
  refine wp_ret ?_
  refine r_then (ret3 (v := (.slice _ _ _)) (v' := (.bool _)) (v'' := (.int .i64 _)) Try.results42 rfl rfl rfl ?_)
  exact ⟨none, 0, by simp [sfT, sfB, e1], by simp [sfT, e1]; exact nilI _ _ _, by simpa [sfU, e1] using hbs, hE⟩
 ·
  try simp only [nm] at hc0
  refine wp_skip ?_
  refine n_then ?_
  refine wp_seq ?_
  refine rgD 12 (fun w_ => Ext w1 w_) (fun i => Nat.beq i 5) mixed (by kernel_rfl) ?_
  intro w5 ho6 hs7
  refine ⟨ho6, ?_⟩
  have hx8 := ho6
  refine tn rfl (fun _ hG => y_lbN (hb3.ext hG) agg26 rfl) ?_
  refine tn rfl (fun _ hG => mvP rfl) ?_
  refine tn rfl (fun _ hG => y_nil rfl) ?_
  refine tn rfl (fun _ hG => y_fld fld78_0 rfl) ?_
  refine tn rfl (fun _ hG => y_lb (hbs.ext hG) na3 rfl rfl) ?_
  refine tc rfl cl61 (search_Feasible_ok N A _ _ L _ (hN.ext hx8)) rfl ?_
  rintro v13 w9 ⟨at1, ct1, rfl, hT1, ho10⟩
  have hf1 := findU_rng N false L
  have hx14 := hx8.step ho10 (.inl (Nat.le_refl _))
  have hz15 := ho10.size
  refine ⟨hx14, ?_⟩
  refine tn rfl (fun _ hG => mvT rfl) ?_
  refine tn rfl (fun _ hG => y_ext rfl rfl) ?_
  refine tn rfl (fun _ hG => y_ext rfl rfl) ?_
  refine tn rfl (fun _ hG => y_ext rfl rfl) ?_
  refine tn rfl (fun _ hG => asS rfl) ?_
  refine tn rfl (fun _ hG => asI rfl) ?_
  refine t_end ?_
  have hz16 := hx14.size
  replace hN := hN.ext hx14
  replace hbs := hbs.ext hx14
  replace hE := hE.step hx14 (.inl (Nat.le_refl _))
  replace hb3 := hb3.ext hx14
  refine st (asI rfl) ?_
  refine rg_end ?_
  refine n_then ?_
  refine wp_seq ?_
  refine wp_seq ?_
  refine rg ?_
  refine st (mvI rfl) ?_
  refine st (y_eql rfl rfl) ?_
  refine rg_end ?_
  refine n_then ?_
  refine cnd rfl (fun hc1 => ?_) (fun hc1 => ?_)
  ·
   try simp only [nm] at hc1
   have e1 : sfE N L = 15 := by unfold sfE; rw [if_neg hc0, if_pos hc1]
   refine wp_seq ?_
   refine rg ?_
   refine st (mvI rfl) ?_
   refine st (asS rfl) ?_
   refine st (asB rfl) ?_
   refine st (asI rfl) ?_
   refine rg_end ?_
   refine n_then ?_
   refine wp_ret ?_
   refine r_then (ret3 (v := (.slice _ _ _)) (v' := (.bool _)) (v'' := (.int .i64 _)) Try.results42 rfl rfl rfl ?_)
   exact ⟨none, 0, by simp [sfT, sfB, e1, hc1], by simp [sfT, e1]; exact nilI _ _ _, by simpa [sfU, e1] using hbs, hE⟩
  ·
   try simp only [nm] at hc1
   have e1 : sfE N L = 0 := by unfold sfE; rw [if_neg hc0, if_neg hc1]
   have e2 : sfU N L = findU N false L := by unfold sfU; rw [if_pos e1]
   have e3 : sfT N L = findT N false L := by unfold sfT; rw [if_pos e1]
   refine wp_skip ?_
   refine n_then ?_
   refine wp_seq ?_
   refine rg ?_
   refine st (mvP rfl) ?_
   refine st (y_nil rfl) ?_
   refine st (y_fld fld78_0 rfl) ?_
   refine st (y_lb hbs na3 rfl rfl) ?_
   refine st (mvI rfl) ?_
   refine st (y_sub rfl rfl (by omega)) ?_
   refine st (y_nil rfl) ?_
   refine st (y_fld fld78_0 rfl) ?_
   refine sd0 (d_st hbs sz3 rfl rfl rfl (Nat.le_of_ble_eq_true rfl) ?_)
   intro w17 hs19 ho18 hbs'
   clear hbs; have hbs := hbs'; clear hbs'
   have hz20 := ho18.size
   replace hN := hN.out ho18 (by first | omega | (simp only [blk_some, hi1_some] at *; omega))
   replace hE := hE.step ho18 (by first | omega | (simp only [blk_some, hi1_some] at *; omega))
   replace hb3 := hb3.out ho18 (by first | omega | (simp only [blk_some, hi1_some] at *; omega))
   replace hT1 := hT1.out ho18 (by first | omega | (simp only [blk_some, hi1_some] at *; omega))
   refine rg_end ?_
   refine n_then ?_
   refine wp_seq ?_
   refine rg ?_
   refine st (mvP rfl) ?_
   refine st (y_nil rfl) ?_
   refine st (y_fld fld78_1 rfl) ?_
   refine st (y_lb hbs na3 rfl rfl) ?_
   refine st (mvI rfl) ?_
   refine st (y_add rfl rfl (by omega)) ?_
   refine st (y_nil rfl) ?_
   refine st (y_fld fld78_1 rfl) ?_
   refine sd0 (d_st hbs sz3 rfl rfl rfl (Nat.le_of_ble_eq_true rfl) ?_)
   intro w21 hs23 ho22 hbs'
   clear hbs; have hbs := hbs'; clear hbs'
   have hz24 := ho22.size
   replace hN := hN.out ho22 (by first | omega | (simp only [blk_some, hi1_some] at *; omega))
   replace hE := hE.step ho22 (by first | omega | (simp only [blk_some, hi1_some] at *; omega))
   replace hb3 := hb3.out ho22 (by first | omega | (simp only [blk_some, hi1_some] at *; omega))
   replace hT1 := hT1.out ho22 (by first | omega | (simp only [blk_some, hi1_some] at *; omega))
   refine rg_end ?_
   refine n_then ?_
   refine wp_seq ?_
   refine rg ?_
   refine st (mvS rfl) ?_
   refine st (mvI rfl) ?_
   refine st (y_eql rfl rfl) ?_
   refine st (asS rfl) ?_
   refine st (asB rfl) ?_
   refine st (asI rfl) ?_
   refine rg_end ?_
   refine n_then ?_
   refine wp_ret ?_
   refine ret3 (v := (.slice _ _ _)) (v' := (.bool _)) (v'' := (.int .i64 _)) Try.results42 rfl rfl rfl ?_
   rw [e2, e3]
   exact ⟨at1, ct1, by simp [sfB, e1], Sl.wide hT1 (by omega) (by omega), hbs, hE⟩
end Go.Proofs.Ytclligkngjhihaa
