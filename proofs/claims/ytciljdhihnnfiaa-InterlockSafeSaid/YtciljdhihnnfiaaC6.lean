/-
  Walks of the functions, printed by a program out of the code and the loops' relations.
-/
import Derived.Test.YtciljdhihnnfiaaWkD
import Derived.Test.YtciljdhihnnfiaaProg
import Derived.KernelRfl
import Derived.Test.YtciljdhihnnfiaaC5
namespace Go.Proofs.Ytciljdhihnnfiaa
open Go.Wk Go.RowKit
set_option linter.unusedVariables false
set_option linter.unusedSimpArgs false
theorem cl44 : Callable Try.prog 44 := ⟨Try.call44⟩
theorem cl46 : Callable Try.prog 46 := ⟨Try.call46⟩
theorem fld67_0 : FieldOf Try.prog 67 0 0 := fun b o w => by simp [Instr.fieldAt, fieldPlace, Instr.sureAddr, Addr.add_lit]
theorem fld67_1 : FieldOf Try.prog 67 1 1 := fun b o w => by simp [Instr.fieldAt, fieldPlace, Instr.sureAddr, Addr.add_lit]
theorem fld67_2 : FieldOf Try.prog 67 2 2 := fun b o w => by simp [Instr.fieldAt, fieldPlace, Instr.sureAddr, Addr.add_lit]
theorem fld67_3 : FieldOf Try.prog 67 3 3 := fun b o w => by simp [Instr.fieldAt, fieldPlace, Instr.sureAddr, Addr.add_lit]
theorem fld67_4 : FieldOf Try.prog 67 4 4 := fun b o w => by simp [Instr.fieldAt, fieldPlace, Instr.sureAddr, Addr.add_lit]
theorem na65 : NotAgg Try.prog 65 := Try.isAgg65

theorem sepO {a c : Option Addr} (h : hi1 a ≤ blk c ∨ hi1 c ≤ blk a) : blk c < blk a ∨ hi1 a ≤ blk c ∨ hi1 c = 0 := by
  cases c with
  | none => exact .inr (.inr rfl)
  | some q => simp only [blk_some, hi1_some] at *; omega
structure RSep (b : Nat) (ah ap ar ac : Option Addr) (l2 h2 : Nat) : Prop where
  bh : b < blk ah ∨ hi1 ah ≤ b
  bp : b < blk ap ∨ hi1 ap ≤ b
  br : b < blk ar ∨ hi1 ar ≤ b
  bc : b < blk ac ∨ hi1 ac ≤ b
  hp : hi1 ah ≤ blk ap ∨ hi1 ap ≤ blk ah
  hr : hi1 ah ≤ blk ar ∨ hi1 ar ≤ blk ah
  hc : hi1 ah ≤ blk ac ∨ hi1 ac ≤ blk ah
  pr : hi1 ap ≤ blk ar ∨ hi1 ar ≤ blk ap
  pc : hi1 ap ≤ blk ac ∨ hi1 ac ≤ blk ap
  rc : hi1 ar ≤ blk ac ∨ hi1 ac ≤ blk ar
  sh : h2 ≤ blk ah ∨ hi1 ah ≤ l2 ∨ hi1 ah ≤ blk ah
  sp : h2 ≤ blk ap ∨ hi1 ap ≤ l2 ∨ hi1 ap ≤ blk ap
  sr : h2 ≤ blk ar ∨ hi1 ar ≤ l2 ∨ hi1 ar ≤ blk ar
  sc : h2 ≤ blk ac ∨ hi1 ac ≤ l2 ∨ hi1 ac ≤ blk ac
/-- The reference's interlocking at block 'b'. -/
structure Rlk (lo hi b : Nat) (w : World) (S : IS) : Prop where
  ex : ∃ ah ch ap cp ar cr ac cc au cu l2 h2, Blk w b [.slice ah S.rs.length ch, .slice ap S.rs.length cp, .slice ar S.rs.length cr, .slice ac S.rs.length cc, .slice au S.fl.length cu] ∧ Ow 3 encI 1 lo hi w ah ch (S.rs.map Rs.ho) ∧ Ow 3 encI 1 lo hi w ap cp (S.rs.map Rs.po) ∧ Ow 3 encI 1 lo hi w ar cr (S.rs.map Rs.re) ∧ Ow 4 encB 1 lo hi w ac cc (S.rs.map Rs.cl) ∧ Sl encFk 3 l2 h2 w au S.fl ∧ lo ≤ l2 ∧ h2 ≤ hi ∧ lo ≤ b ∧ b < hi ∧ hi ≤ w.heap.size ∧ RSep b ah ap ar ac l2 h2
theorem Rlk.out {lo hi b : Nat} {w w' : World} {S : IS} {a c : Nat} (h : Rlk lo hi b w S) (ho : Out a c w w') (hs : hi ≤ a ∨ c ≤ lo ∨ c ≤ a) : Rlk lo hi b w' S := by
  obtain ⟨ah, ch, ap, cp, ar, cr, ac, cc, au, cu, l2, h2, hb, hh, hp, hr, hc, hf, h3, h4, h5, h6, h7, h8⟩ := h.ex
  have r1 := hh.rng
  have r2 := hp.rng
  have r3 := hr.rng
  have r4 := hc.rng
  have := ho.size
  exact ⟨ah, ch, ap, cp, ar, cr, ac, cc, au, cu, l2, h2, hb.out ho (by omega), hh.out ho (by clear r2 r3 r4; omega), hp.out ho (by clear r1 r3 r4; omega), hr.out ho (by clear r1 r2 r4; omega), hc.out ho (by clear r1 r2 r3; omega), hf.out ho (by omega), h3, h4, h5, h6, by omega, h8⟩
theorem Rlk.ext {lo hi b : Nat} {w w' : World} {S : IS} (h : Rlk lo hi b w S) (ho : Ext w w') : Rlk lo hi b w' S := h.out ho (.inr (.inr (Nat.le_refl _)))
theorem rlk_of {lo hi b : Nat} {w : World} {S : IS} {n : Nat} {L1 L2 L3 : List Int} {L4 : List Bool} {F : List Fk} {ah ap ar ac au : Option Addr} {ch cp cr cc cu l2 h2 : Nat} (hb : Blk w b [.slice ah n ch, .slice ap n cp, .slice ar n cr, .slice ac n cc, .slice au F.length cu])
    (hh : Ow 3 encI 1 lo hi w ah ch L1) (hp : Ow 3 encI 1 lo hi w ap cp L2) (hr : Ow 3 encI 1 lo hi w ar cr L3) (hc : Ow 4 encB 1 lo hi w ac cc L4) (hf : Sl encFk 3 l2 h2 w au F) (h3 : lo ≤ l2) (h4 : h2 ≤ hi) (h5 : lo ≤ b) (h6 : b < hi) (h7 : hi ≤ w.heap.size) (h8 : RSep b ah ap ar ac l2 h2)
    (en : S.rs.length = n) (e1 : S.rs.map Rs.ho = L1) (e2 : S.rs.map Rs.po = L2) (e3 : S.rs.map Rs.re = L3) (e4 : S.rs.map Rs.cl = L4) (e5 : S.fl = F) : Rlk lo hi b w S := by
  subst en e1 e2 e3 e4 e5
  exact ⟨ah, ch, ap, cp, ar, cr, ac, cc, au, cu, l2, h2, hb, hh, hp, hr, hc, hf, h3, h4, h5, h6, h7, h8⟩

set_option maxRecDepth 100000 in
theorem rlk_is_ok (S : IS) (lo hi b : Nat) (r : Int) (w : World) (hX : Rlk lo hi b w S) (hS : IsOk S)  : Cal Try.prog 44 [.pointer (some ⟨b, 0, none⟩), .int .i64 r] w (fun v w' => v = .bool (isR S r) ∧ Ext w w') := by
  obtain ⟨ah, ch, ap, cp, ar, cr, ac, cc, au, cu, l2, h2, hb, hh, hp, hr, hc_, hf, hl2, hh2, hlb, hbh, hhi, hsp⟩ := hX.ex
  have hbl := hb.lt
  have hpos : 0 < w.heap.size := by omega
  have hx1 := hh.blt hpos
  have hx2 := hp.blt hpos
  have hx3 := hr.blt hpos
  have hx4 := hc_.blt hpos
  have hn1 := hS.n1
  have hn2 := hS.n2
  have hlh : (S.rs.map Rs.ho).length = S.rs.length := by simp
  have hlp : (S.rs.map Rs.po).length = S.rs.length := by simp
  have hlr : (S.rs.map Rs.re).length = S.rs.length := by simp
  have hlc : (S.rs.map Rs.cl).length = S.rs.length := by simp
  have hE : Out 0 0 w w := Out.refl _ _ w
  refine enter Try.func44 rfl Try.ntmps44 rfl ?_
  refine wp_seq ?_
  refine rg ?_
  refine st (asB rfl) ?_
  refine rg_end ?_
  refine n_then ?_
  refine wp_seq ?_
  refine rg ?_
  refine st (mvI rfl) ?_
  refine st (y_geq rfl rfl) ?_
  refine st (mvB rfl) ?_
  refine gspL 7 rfl (fun hg1 => ?_) (fun hg1 => ?_)
  ·
    have hg1n := hg1; try simp only [decide_eq_true_eq, decide_eq_false_iff_not, Bool.not_eq_true', Bool.not_eq_false', Bool.and_eq_true, Bool.or_eq_true, Bool.or_eq_false_iff, Bool.cond_true_right, Bool.cond_false_right, Bool.cond_true_left, Bool.cond_false_left, ne_eq, Decidable.not_not, bne_iff_ne, beq_iff_eq, beq_eq_false_iff_ne, Bool.not_true, Bool.not_false] at hg1n
    refine stg rfl rfl hg1 (mvI rfl) ?_
    refine stg rfl rfl hg1 (mvP rfl) ?_
    refine stg rfl rfl hg1 (y_nil rfl) ?_
    refine stg rfl rfl hg1 (y_fld fld67_0 rfl) ?_
    refine stg rfl rfl hg1 (y_lb hb na23 rfl rfl) ?_
    refine stg rfl rfl hg1 (y_len Try.underlying23 rfl) ?_
    refine stg rfl rfl hg1 (y_lss rfl rfl) ?_
    refine st (y_pickT rfl hg1 (v := .bool _) rfl) ?_
    refine st (asB rfl) ?_
    refine rg_end ?_
    refine n_then ?_
    refine wp_ret ?_
    refine ret1 (v := (.bool _)) Try.results44 rfl ?_
    exact ⟨vb (by simp only [isR, decide_eq_true_eq, decide_eq_false_iff_not, Bool.not_eq_true', Bool.not_eq_eq_eq_not, Bool.not_true, Bool.false_eq_true, false_iff, true_iff, iff_true, iff_false]; omega), hE⟩
  ·
    have hg1n := hg1; try simp only [decide_eq_true_eq, decide_eq_false_iff_not, Bool.not_eq_true', Bool.not_eq_false', Bool.and_eq_true, Bool.or_eq_true, Bool.or_eq_false_iff, Bool.cond_true_right, Bool.cond_false_right, Bool.cond_true_left, Bool.cond_false_left, ne_eq, Decidable.not_not, bne_iff_ne, beq_iff_eq, beq_eq_false_iff_ne, Bool.not_true, Bool.not_false] at hg1n
    refine sts rfl rfl hg1 ?_
    refine sts rfl rfl hg1 ?_
    refine sts rfl rfl hg1 ?_
    refine sts rfl rfl hg1 ?_
    refine sts rfl rfl hg1 ?_
    refine sts rfl rfl hg1 ?_
    refine sts rfl rfl hg1 ?_
    refine st (y_pickF rfl hg1 (v := .bool _) rfl) ?_
    refine st (asB rfl) ?_
    refine rg_end ?_
    refine n_then ?_
    refine wp_ret ?_
    refine ret1 (v := (.bool _)) Try.results44 rfl ?_
    exact ⟨vb (by simp only [isR, decide_eq_true_eq, decide_eq_false_iff_not, Bool.not_eq_true', Bool.not_eq_eq_eq_not, Bool.not_true, Bool.false_eq_true, false_iff, true_iff, iff_true, iff_false]; omega), hE⟩

set_option maxRecDepth 100000 in
theorem rlk_Report_ok (S : IS) (lo hi b : Nat) (r x : Int) (w : World) (hX : Rlk lo hi b w S) (hS : IsOk S)  : Cal Try.prog 31 [.pointer (some ⟨b, 0, none⟩), .int .i64 r, .int .i64 x] w (fun v w' => v = .bool (repB S r x) ∧ Rlk lo hi b w' (repS S r x) ∧ Out lo hi w w') := by
  obtain ⟨ah, ch, ap, cp, ar, cr, ac, cc, au, cu, l2, h2, hb, hh, hp, hr, hc_, hf, hl2, hh2, hlb, hbh, hhi, hsp⟩ := hX.ex
  have hbl := hb.lt
  have hpos : 0 < w.heap.size := by omega
  have hx1 := hh.blt hpos
  have hx2 := hp.blt hpos
  have hx3 := hr.blt hpos
  have hx4 := hc_.blt hpos
  have hn1 := hS.n1
  have hn2 := hS.n2
  have hlh : (S.rs.map Rs.ho).length = S.rs.length := by simp
  have hlp : (S.rs.map Rs.po).length = S.rs.length := by simp
  have hlr : (S.rs.map Rs.re).length = S.rs.length := by simp
  have hlc : (S.rs.map Rs.cl).length = S.rs.length := by simp
  have hE : Out lo hi w w := Out.refl _ _ w
  refine enter Try.func31 rfl Try.ntmps31 rfl ?_
  refine wp_seq ?_
  refine rg ?_
  refine st (asB rfl) ?_
  refine rg_end ?_
  refine n_then ?_
  refine wp_seq ?_
  refine cut (γ := Unit) [7, 8, 9, 10, 11, 12, 13, 14, 15, 16, 17, 18] (fun _ => [(18, .bool (!repB S r x))]) (fun _ w_ => Ext w w_ ∧ True) ?_ ?_
  ·
    have hcut := Out.refl 0 0 w
    refine rg ?_
    refine st (mvP rfl) ?_
    refine st (mvI rfl) ?_
    refine sc cl44 (rlk_is_ok S _ _ _ _ _ hX hS) rfl ?_
    rintro v5 w1 ⟨rfl, ho2⟩
    have hz6 := ho2.size
    replace hX := hX.ext ho2
    replace hb := hb.ext ho2
    replace hh := hh.ext ho2
    replace hp := hp.ext ho2
    replace hr := hr.ext ho2
    replace hc_ := hc_.ext ho2
    replace hf := hf.ext ho2
    replace hE := hE.step ho2 (.inl (Nat.le_refl _))
    replace hcut := hcut.step ho2 (.inl (Nat.le_refl _))
    refine st (y_not rfl) ?_
    refine st (mvB rfl) ?_
    refine gspL 11 rfl (fun hg7 => ?_) (fun hg7 => ?_)
    ·
      have hg7n := hg7; try simp only [decide_eq_true_eq, decide_eq_false_iff_not, Bool.not_eq_true', Bool.not_eq_false', Bool.and_eq_true, Bool.or_eq_true, Bool.or_eq_false_iff, Bool.cond_true_right, Bool.cond_false_right, Bool.cond_true_left, Bool.cond_false_left, ne_eq, Decidable.not_not, bne_iff_ne, beq_iff_eq, beq_eq_false_iff_ne, Bool.not_true, Bool.not_false] at hg7n
      simp only [isR, decide_eq_true_eq, decide_eq_false_iff_not] at hg7n
      refine sts rfl rfl hg7 ?_
      refine sts rfl rfl hg7 ?_
      refine st (y_pickT rfl hg7 (v := .bool _) rfl) ?_
      refine st (mvB rfl) ?_
      refine sts rfl rfl rfl ?_
      refine sts rfl rfl rfl ?_
      refine st (y_pickT rfl rfl (v := .bool _) rfl) ?_
      refine rg_end ?_
      exact n_then ⟨(), _, rfl, same_lk rfl (same_rfl), ⟨vb (by simp only [repB, isR, Bool.and_eq_true, Bool.and_eq_false_iff, decide_eq_true_eq, decide_eq_false_iff_not, Bool.not_eq_true', Bool.not_eq_eq_eq_not, Bool.not_true, Bool.false_eq_true, false_iff, true_iff, iff_true, iff_false]; omega), trivial⟩, ⟨hcut, trivial⟩⟩
    ·
      have hg7n := hg7; try simp only [decide_eq_true_eq, decide_eq_false_iff_not, Bool.not_eq_true', Bool.not_eq_false', Bool.and_eq_true, Bool.or_eq_true, Bool.or_eq_false_iff, Bool.cond_true_right, Bool.cond_false_right, Bool.cond_true_left, Bool.cond_false_left, ne_eq, Decidable.not_not, bne_iff_ne, beq_iff_eq, beq_eq_false_iff_ne, Bool.not_true, Bool.not_false] at hg7n
      simp only [isR, decide_eq_true_eq, decide_eq_false_iff_not] at hg7n
      refine stg rfl rfl hg7 (mvI rfl) ?_
      refine stg rfl rfl hg7 (y_lss rfl rfl) ?_
      refine st (y_pickF rfl hg7 (v := .bool _) rfl) ?_
      refine st (mvB rfl) ?_
      refine gspL 15 rfl (fun hg8 => ?_) (fun hg8 => ?_)
      ·
        have hg8n := hg8; try simp only [decide_eq_true_eq, decide_eq_false_iff_not, Bool.not_eq_true', Bool.not_eq_false', Bool.and_eq_true, Bool.or_eq_true, Bool.or_eq_false_iff, Bool.cond_true_right, Bool.cond_false_right, Bool.cond_true_left, Bool.cond_false_left, ne_eq, Decidable.not_not, bne_iff_ne, beq_iff_eq, beq_eq_false_iff_ne, Bool.not_true, Bool.not_false] at hg8n
        refine sts rfl rfl hg8 ?_
        refine sts rfl rfl hg8 ?_
        refine st (y_pickT rfl hg8 (v := .bool _) rfl) ?_
        refine rg_end ?_
        exact n_then ⟨(), _, rfl, same_lk rfl (same_rfl), ⟨vb (by simp only [repB, isR, Bool.and_eq_true, Bool.and_eq_false_iff, decide_eq_true_eq, decide_eq_false_iff_not, Bool.not_eq_true', Bool.not_eq_eq_eq_not, Bool.not_true, Bool.false_eq_true, false_iff, true_iff, iff_true, iff_false]; omega), trivial⟩, ⟨hcut, trivial⟩⟩
      ·
        have hg8n := hg8; try simp only [decide_eq_true_eq, decide_eq_false_iff_not, Bool.not_eq_true', Bool.not_eq_false', Bool.and_eq_true, Bool.or_eq_true, Bool.or_eq_false_iff, Bool.cond_true_right, Bool.cond_false_right, Bool.cond_true_left, Bool.cond_false_left, ne_eq, Decidable.not_not, bne_iff_ne, beq_iff_eq, beq_eq_false_iff_ne, Bool.not_true, Bool.not_false] at hg8n
        refine stg rfl rfl hg8 (mvI rfl) ?_
        refine stg rfl rfl hg8 (y_gtr rfl rfl) ?_
        refine st (y_pickF rfl hg8 (v := .bool _) rfl) ?_
        refine rg_end ?_
        exact n_then ⟨(), _, rfl, same_lk rfl (same_rfl), ⟨vb (by simp only [repB, isR, Bool.and_eq_true, Bool.and_eq_false_iff, decide_eq_true_eq, decide_eq_false_iff_not, Bool.not_eq_true', Bool.not_eq_eq_eq_not, Bool.not_true, Bool.false_eq_true, false_iff, true_iff, iff_true, iff_false]; omega), trivial⟩, ⟨hcut, trivial⟩⟩
  ·
    rintro _ hav_ w9 ⟨ho10, _⟩
    have hz11 := ho10.size
    replace hX := hX.ext ho10
    replace hb := hb.ext ho10
    replace hh := hh.ext ho10
    replace hp := hp.ext ho10
    replace hr := hr.ext ho10
    replace hc_ := hc_.ext ho10
    replace hf := hf.ext ho10
    replace hE := hE.step ho10 (.inl (Nat.le_refl _))
    refine cnd rfl (fun hc0 => ?_) (fun hc0 => ?_)
    ·
      try simp only [decide_eq_true_eq, decide_eq_false_iff_not, Bool.not_eq_true', Bool.not_eq_false', Bool.and_eq_true, Bool.or_eq_true, Bool.or_eq_false_iff, Bool.cond_true_right, Bool.cond_false_right, Bool.cond_true_left, Bool.cond_false_left, ne_eq, Decidable.not_not, bne_iff_ne, beq_iff_eq, beq_eq_false_iff_ne, Bool.not_true, Bool.not_false] at hc0
      have hs : repS S r x = S := by unfold repS; rw [if_neg (by rw [hc0]; decide)]
      refine wp_seq ?_
      refine rg ?_
      refine st (asB rfl) ?_
      refine rg_end ?_
      refine n_then ?_
      refine wp_ret ?_
      refine r_then (ret1 (v := (.bool _)) Try.results31 rfl ?_)
      exact ⟨by rw [hc0], by rw [hs]; exact hX, hE⟩
    ·
      try simp only [decide_eq_true_eq, decide_eq_false_iff_not, Bool.not_eq_true', Bool.not_eq_false', Bool.and_eq_true, Bool.or_eq_true, Bool.or_eq_false_iff, Bool.cond_true_right, Bool.cond_false_right, Bool.cond_true_left, Bool.cond_false_left, ne_eq, Decidable.not_not, bne_iff_ne, beq_iff_eq, beq_eq_false_iff_ne, Bool.not_true, Bool.not_false] at hc0
      have hs : repS S r x = ⟨S.rs.set r.toNat { el S.rs r with re := x }, S.fl⟩ := by unfold repS; rw [if_pos hc0]
      have hr0 := isR_iff.1 (show isR S r = true by simp only [repB, Bool.and_eq_true] at hc0; exact hc0.1)
      have hacc := hr.acc
      refine wp_skip ?_
      refine n_then ?_
      refine wp_seq ?_
      refine rg ?_
      refine st (mvP rfl) ?_
      refine st (y_nil rfl) ?_
      refine st (y_fld fld67_2 rfl) ?_
      refine st (y_lb hb na23 rfl rfl) ?_
      refine st (mvI rfl) ?_
      refine st (mvI rfl) ?_
      refine st (y_ix hr.sl sl23 rfl (hlr.symm) rfl (by omega) (by omega)) ?_
      refine sd0 (d_se (j := 0) (e' := x) hr sz3 rfl rfl rfl (by omega) (by omega) (Nat.le_of_ble_eq_true rfl) rfl ?_)
      intro w12 hs14 ho13 hr'
      clear hr; have hr := hr'; clear hr'
      have hz15 := ho13.size
      replace hb := hb.out ho13 (by first | exact hsp.bh | exact hsp.bp | exact hsp.br | exact hsp.bc | exact sepO hsp.hp | exact sepO hsp.hr | exact sepO hsp.hc | exact sepO hsp.pr | exact sepO hsp.pc | exact sepO hsp.rc | exact sepO hsp.hp.symm | exact sepO hsp.hr.symm | exact sepO hsp.hc.symm | exact sepO hsp.pr.symm | exact sepO hsp.pc.symm | exact sepO hsp.rc.symm | exact hsp.sh | exact hsp.sp | exact hsp.sr | exact hsp.sc | omega | (simp only [blk_some, hi1_some] at *; omega))
      replace hh := hh.out ho13 (by first | exact hsp.bh | exact hsp.bp | exact hsp.br | exact hsp.bc | exact sepO hsp.hp | exact sepO hsp.hr | exact sepO hsp.hc | exact sepO hsp.pr | exact sepO hsp.pc | exact sepO hsp.rc | exact sepO hsp.hp.symm | exact sepO hsp.hr.symm | exact sepO hsp.hc.symm | exact sepO hsp.pr.symm | exact sepO hsp.pc.symm | exact sepO hsp.rc.symm | exact hsp.sh | exact hsp.sp | exact hsp.sr | exact hsp.sc | omega | (simp only [blk_some, hi1_some] at *; omega))
      replace hp := hp.out ho13 (by first | exact hsp.bh | exact hsp.bp | exact hsp.br | exact hsp.bc | exact sepO hsp.hp | exact sepO hsp.hr | exact sepO hsp.hc | exact sepO hsp.pr | exact sepO hsp.pc | exact sepO hsp.rc | exact sepO hsp.hp.symm | exact sepO hsp.hr.symm | exact sepO hsp.hc.symm | exact sepO hsp.pr.symm | exact sepO hsp.pc.symm | exact sepO hsp.rc.symm | exact hsp.sh | exact hsp.sp | exact hsp.sr | exact hsp.sc | omega | (simp only [blk_some, hi1_some] at *; omega))
      replace hc_ := hc_.out ho13 (by first | exact hsp.bh | exact hsp.bp | exact hsp.br | exact hsp.bc | exact sepO hsp.hp | exact sepO hsp.hr | exact sepO hsp.hc | exact sepO hsp.pr | exact sepO hsp.pc | exact sepO hsp.rc | exact sepO hsp.hp.symm | exact sepO hsp.hr.symm | exact sepO hsp.hc.symm | exact sepO hsp.pr.symm | exact sepO hsp.pc.symm | exact sepO hsp.rc.symm | exact hsp.sh | exact hsp.sp | exact hsp.sr | exact hsp.sc | omega | (simp only [blk_some, hi1_some] at *; omega))
      replace hf := hf.out ho13 (by first | exact hsp.bh | exact hsp.bp | exact hsp.br | exact hsp.bc | exact sepO hsp.hp | exact sepO hsp.hr | exact sepO hsp.hc | exact sepO hsp.pr | exact sepO hsp.pc | exact sepO hsp.rc | exact sepO hsp.hp.symm | exact sepO hsp.hr.symm | exact sepO hsp.hc.symm | exact sepO hsp.pr.symm | exact sepO hsp.pc.symm | exact sepO hsp.rc.symm | exact hsp.sh | exact hsp.sp | exact hsp.sr | exact hsp.sc | omega | (simp only [blk_some, hi1_some] at *; omega))
      replace hE := hE.step ho13 (by first | exact hsp.bh | exact hsp.bp | exact hsp.br | exact hsp.bc | exact sepO hsp.hp | exact sepO hsp.hr | exact sepO hsp.hc | exact sepO hsp.pr | exact sepO hsp.pc | exact sepO hsp.rc | exact sepO hsp.hp.symm | exact sepO hsp.hr.symm | exact sepO hsp.hc.symm | exact sepO hsp.pr.symm | exact sepO hsp.pc.symm | exact sepO hsp.rc.symm | exact hsp.sh | exact hsp.sp | exact hsp.sr | exact hsp.sc | omega | (simp only [blk_some, hi1_some] at *; omega))
      refine rg_end ?_
      refine n_then ?_
      refine wp_seq ?_
      refine rg ?_
      refine st (asB rfl) ?_
      refine rg_end ?_
      refine n_then ?_
      refine wp_ret ?_
      refine ret1 (v := (.bool _)) Try.results31 rfl ?_
      exact ⟨by rw [hc0], by rw [hs]; exact rlk_of hb hh hp hr hc_ hf hl2 hh2 hlb hbh (by omega) hsp (by simp)  (map_set_id hr0.1 hr0.2 rfl) (map_set_id hr0.1 hr0.2 rfl) map_set (map_set_id hr0.1 hr0.2 rfl) rfl, hE⟩

set_option maxRecDepth 100000 in
theorem rlk_Close_ok (S : IS) (lo hi b : Nat) (r : Int) (x : Bool) (w : World) (hX : Rlk lo hi b w S) (hS : IsOk S)  : Cal Try.prog 32 [.pointer (some ⟨b, 0, none⟩), .int .i64 r, .bool x] w (fun v w' => v = .bool (isR S r) ∧ Rlk lo hi b w' (cloS S r x) ∧ Out lo hi w w') := by
  obtain ⟨ah, ch, ap, cp, ar, cr, ac, cc, au, cu, l2, h2, hb, hh, hp, hr, hc_, hf, hl2, hh2, hlb, hbh, hhi, hsp⟩ := hX.ex
  have hbl := hb.lt
  have hpos : 0 < w.heap.size := by omega
  have hx1 := hh.blt hpos
  have hx2 := hp.blt hpos
  have hx3 := hr.blt hpos
  have hx4 := hc_.blt hpos
  have hn1 := hS.n1
  have hn2 := hS.n2
  have hlh : (S.rs.map Rs.ho).length = S.rs.length := by simp
  have hlp : (S.rs.map Rs.po).length = S.rs.length := by simp
  have hlr : (S.rs.map Rs.re).length = S.rs.length := by simp
  have hlc : (S.rs.map Rs.cl).length = S.rs.length := by simp
  have hE : Out lo hi w w := Out.refl _ _ w
  refine enter Try.func32 rfl Try.ntmps32 rfl ?_
  refine wp_seq ?_
  refine rg ?_
  refine st (asB rfl) ?_
  refine rg_end ?_
  refine n_then ?_
  refine wp_seq ?_
  refine wp_seq ?_
  refine rg ?_
  refine st (mvP rfl) ?_
  refine st (mvI rfl) ?_
  refine sc cl44 (rlk_is_ok S _ _ _ _ _ hX hS) rfl ?_
  rintro v5 w1 ⟨rfl, ho2⟩
  have hz6 := ho2.size
  replace hX := hX.ext ho2
  replace hb := hb.ext ho2
  replace hh := hh.ext ho2
  replace hp := hp.ext ho2
  replace hr := hr.ext ho2
  replace hc_ := hc_.ext ho2
  replace hf := hf.ext ho2
  replace hE := hE.step ho2 (.inl (Nat.le_refl _))
  refine st (y_not rfl) ?_
  refine rg_end ?_
  refine n_then ?_
  refine cnd rfl (fun hc0 => ?_) (fun hc0 => ?_)
  ·
    try simp only [decide_eq_true_eq, decide_eq_false_iff_not, Bool.not_eq_true', Bool.not_eq_false', Bool.and_eq_true, Bool.or_eq_true, Bool.or_eq_false_iff, Bool.cond_true_right, Bool.cond_false_right, Bool.cond_true_left, Bool.cond_false_left, ne_eq, Decidable.not_not, bne_iff_ne, beq_iff_eq, beq_eq_false_iff_ne, Bool.not_true, Bool.not_false] at hc0
    have hs : cloS S r x = S := by unfold cloS; rw [if_neg (by rw [hc0]; decide)]
    refine wp_seq ?_
    refine rg ?_
    refine st (asB rfl) ?_
    refine rg_end ?_
    refine n_then ?_
    refine wp_ret ?_
    refine r_then (ret1 (v := (.bool _)) Try.results32 rfl ?_)
    exact ⟨by rw [hc0], by rw [hs]; exact hX, hE⟩
  ·
    try simp only [decide_eq_true_eq, decide_eq_false_iff_not, Bool.not_eq_true', Bool.not_eq_false', Bool.and_eq_true, Bool.or_eq_true, Bool.or_eq_false_iff, Bool.cond_true_right, Bool.cond_false_right, Bool.cond_true_left, Bool.cond_false_left, ne_eq, Decidable.not_not, bne_iff_ne, beq_iff_eq, beq_eq_false_iff_ne, Bool.not_true, Bool.not_false] at hc0
    have hs : cloS S r x = ⟨S.rs.set r.toNat { el S.rs r with cl := x }, S.fl⟩ := by unfold cloS; rw [if_pos hc0]
    have hr0 := isR_iff.1 hc0
    have hacc := hc_.acc
    refine wp_skip ?_
    refine n_then ?_
    refine wp_seq ?_
    refine rg ?_
    refine st (mvP rfl) ?_
    refine st (y_nil rfl) ?_
    refine st (y_fld fld67_3 rfl) ?_
    refine st (y_lb hb na65 rfl rfl) ?_
    refine st (mvI rfl) ?_
    refine st (mvB rfl) ?_
    refine st (y_ix hc_.sl sl65 rfl (hlc.symm) rfl (by omega) (by omega)) ?_
    refine sd0 (d_se (j := 0) (e' := x) hc_ sz4 rfl rfl rfl (by omega) (by omega) (Nat.le_of_ble_eq_true rfl) rfl ?_)
    intro w7 hs9 ho8 hc_'
    clear hc_; have hc_ := hc_'; clear hc_'
    have hz10 := ho8.size
    replace hb := hb.out ho8 (by first | exact hsp.bh | exact hsp.bp | exact hsp.br | exact hsp.bc | exact sepO hsp.hp | exact sepO hsp.hr | exact sepO hsp.hc | exact sepO hsp.pr | exact sepO hsp.pc | exact sepO hsp.rc | exact sepO hsp.hp.symm | exact sepO hsp.hr.symm | exact sepO hsp.hc.symm | exact sepO hsp.pr.symm | exact sepO hsp.pc.symm | exact sepO hsp.rc.symm | exact hsp.sh | exact hsp.sp | exact hsp.sr | exact hsp.sc | omega | (simp only [blk_some, hi1_some] at *; omega))
    replace hh := hh.out ho8 (by first | exact hsp.bh | exact hsp.bp | exact hsp.br | exact hsp.bc | exact sepO hsp.hp | exact sepO hsp.hr | exact sepO hsp.hc | exact sepO hsp.pr | exact sepO hsp.pc | exact sepO hsp.rc | exact sepO hsp.hp.symm | exact sepO hsp.hr.symm | exact sepO hsp.hc.symm | exact sepO hsp.pr.symm | exact sepO hsp.pc.symm | exact sepO hsp.rc.symm | exact hsp.sh | exact hsp.sp | exact hsp.sr | exact hsp.sc | omega | (simp only [blk_some, hi1_some] at *; omega))
    replace hp := hp.out ho8 (by first | exact hsp.bh | exact hsp.bp | exact hsp.br | exact hsp.bc | exact sepO hsp.hp | exact sepO hsp.hr | exact sepO hsp.hc | exact sepO hsp.pr | exact sepO hsp.pc | exact sepO hsp.rc | exact sepO hsp.hp.symm | exact sepO hsp.hr.symm | exact sepO hsp.hc.symm | exact sepO hsp.pr.symm | exact sepO hsp.pc.symm | exact sepO hsp.rc.symm | exact hsp.sh | exact hsp.sp | exact hsp.sr | exact hsp.sc | omega | (simp only [blk_some, hi1_some] at *; omega))
    replace hr := hr.out ho8 (by first | exact hsp.bh | exact hsp.bp | exact hsp.br | exact hsp.bc | exact sepO hsp.hp | exact sepO hsp.hr | exact sepO hsp.hc | exact sepO hsp.pr | exact sepO hsp.pc | exact sepO hsp.rc | exact sepO hsp.hp.symm | exact sepO hsp.hr.symm | exact sepO hsp.hc.symm | exact sepO hsp.pr.symm | exact sepO hsp.pc.symm | exact sepO hsp.rc.symm | exact hsp.sh | exact hsp.sp | exact hsp.sr | exact hsp.sc | omega | (simp only [blk_some, hi1_some] at *; omega))
    replace hf := hf.out ho8 (by first | exact hsp.bh | exact hsp.bp | exact hsp.br | exact hsp.bc | exact sepO hsp.hp | exact sepO hsp.hr | exact sepO hsp.hc | exact sepO hsp.pr | exact sepO hsp.pc | exact sepO hsp.rc | exact sepO hsp.hp.symm | exact sepO hsp.hr.symm | exact sepO hsp.hc.symm | exact sepO hsp.pr.symm | exact sepO hsp.pc.symm | exact sepO hsp.rc.symm | exact hsp.sh | exact hsp.sp | exact hsp.sr | exact hsp.sc | omega | (simp only [blk_some, hi1_some] at *; omega))
    replace hE := hE.step ho8 (by first | exact hsp.bh | exact hsp.bp | exact hsp.br | exact hsp.bc | exact sepO hsp.hp | exact sepO hsp.hr | exact sepO hsp.hc | exact sepO hsp.pr | exact sepO hsp.pc | exact sepO hsp.rc | exact sepO hsp.hp.symm | exact sepO hsp.hr.symm | exact sepO hsp.hc.symm | exact sepO hsp.pr.symm | exact sepO hsp.pc.symm | exact sepO hsp.rc.symm | exact hsp.sh | exact hsp.sp | exact hsp.sr | exact hsp.sc | omega | (simp only [blk_some, hi1_some] at *; omega))
    refine rg_end ?_
    refine n_then ?_
    refine wp_seq ?_
    refine rg ?_
    refine st (asB rfl) ?_
    refine rg_end ?_
    refine n_then ?_
    refine wp_ret ?_
    refine ret1 (v := (.bool _)) Try.results32 rfl ?_
    exact ⟨by rw [hc0], by rw [hs]; exact rlk_of hb hh hp hr hc_ hf hl2 hh2 hlb hbh (by omega) hsp (by simp)  (map_set_id hr0.1 hr0.2 rfl) (map_set_id hr0.1 hr0.2 rfl) (map_set_id hr0.1 hr0.2 rfl) map_set rfl, hE⟩

set_option maxRecDepth 100000 in
theorem rlk_Flanks_ok (S : IS) (lo hi b : Nat) (r : Int) (w : World) (hX : Rlk lo hi b w S) (hS : IsOk S)  : Cal Try.prog 46 [.pointer (some ⟨b, 0, none⟩), .int .i64 r] w (fun v w' => v = .int .i64 (flk S r) ∧ Ext w w') := by
  obtain ⟨ah, ch, ap, cp, ar, cr, ac, cc, au, cu, l2, h2, hb, hh, hp, hr, hc_, hf, hl2, hh2, hlb, hbh, hhi, hsp⟩ := hX.ex
  have hbl := hb.lt
  have hpos : 0 < w.heap.size := by omega
  have hx1 := hh.blt hpos
  have hx2 := hp.blt hpos
  have hx3 := hr.blt hpos
  have hx4 := hc_.blt hpos
  have hn1 := hS.n1
  have hn2 := hS.n2
  have hlh : (S.rs.map Rs.ho).length = S.rs.length := by simp
  have hlp : (S.rs.map Rs.po).length = S.rs.length := by simp
  have hlr : (S.rs.map Rs.re).length = S.rs.length := by simp
  have hlc : (S.rs.map Rs.cl).length = S.rs.length := by simp
  have hE : Out 0 0 w w := Out.refl _ _ w
  refine enter Try.func46 rfl Try.ntmps46 rfl ?_
  refine wp_seq ?_
  refine rg ?_
  refine st (asI rfl) ?_
  refine rg_end ?_
  refine n_then ?_
  refine wp_seq ?_
  refine rg ?_
  refine st (asI rfl) ?_
  refine rg_end ?_
  refine n_then ?_
  refine wp_seq ?_
  refine wp_seq ?_
  refine rg ?_
  refine st (mvP rfl) ?_
  refine st (y_nil rfl) ?_
  refine st (y_fld fld67_4 rfl) ?_
  refine st (y_lb hb na22 rfl rfl) ?_
  refine st (y_len Try.underlying22 rfl) ?_
  refine st (mvI rfl) ?_
  refine rg_end ?_
  refine n_then ?_
  refine wp_block ?_
  refine lp (γ := Nat × Int) [5, 7, 13, 14, 15, 16, 17, 18, 19, 20, 21, 22, 23, 24, 25, 26, 27, 28, 29, 30, 31, 32, 33, 34] (fun ⟨k, q⟩ => [(13, .int .i64 (k : Int)), (5, .int .i64 q)]) (fun ⟨k, q⟩ w_ => Ext w w_ ∧ (k : Int) ≤ S.fl.length ∧ q = (((S.fl.take k).countP (fkp S r) : Nat) : Int)) (fun ⟨k, q⟩ => S.fl.length - k) (0, 0) ⟨rfl, rfl, trivial⟩ ⟨Out.refl _ _ _, by simp, by simp⟩ ?_
  rintro ⟨k, q⟩ hav_ w1 ⟨ho2, hk, hq⟩
  have hlp0 := ho2
  have hz3 := ho2.size
  replace hX := hX.ext ho2
  replace hb := hb.ext ho2
  replace hh := hh.ext ho2
  replace hp := hp.ext ho2
  replace hr := hr.ext ho2
  replace hc_ := hc_.ext ho2
  replace hf := hf.ext ho2
  replace hE := hE.step ho2 (.inl (Nat.le_refl _))
  refine wp_seq ?_
  refine rg ?_
  refine st (y_lss rfl rfl) ?_
  refine rg_end ?_
  refine n_then ?_
  refine wp_seq ?_
  refine cnd rfl (fun hc0 => ?_) (fun hc0 => ?_)
  ·
    try simp only [decide_eq_true_eq, decide_eq_false_iff_not, Bool.not_eq_true', Bool.not_eq_false', Bool.and_eq_true, Bool.or_eq_true, Bool.or_eq_false_iff, Bool.cond_true_right, Bool.cond_false_right, Bool.cond_true_left, Bool.cond_false_left, ne_eq, Decidable.not_not, bne_iff_ne, beq_iff_eq, beq_eq_false_iff_ne, Bool.not_true, Bool.not_false] at hc0
    have hfk := hS.fl.ok _ (el_mem (l := S.fl) (i := (k : Int)) (by omega) hc0)
    have hfl := hS.fl.len
    have hct := cnt_le (S := S) (r := r) (k := k)
    have hcs := cnt_step (S := S) (r := r) hc0
    have hho := hS.ho _ (el_mem (l := S.rs) hfk.1 hfk.2.1)
    have e_ho := el_map (l := S.rs) (g := Rs.ho) (i := (el S.fl (k : Int)).rs) hfk.1 hfk.2.1
    refine wp_skip ?_
    refine n_then ?_
    refine wp_seq ?_
    refine wp_block ?_
    refine wp_seq ?_
    refine rg ?_
    refine st (y_ix hf sl22 rfl (rfl) rfl (by omega) (by omega)) ?_
    refine st (y_lw hf agg35 rfl (by omega) (by omega)) ?_
    refine sd (d_allocA zer35 ?_)
    intro bl7 w4 hbbl7 hs6 ho5 hbl7
    have hz8 := ho5.size
    replace hX := hX.ext ho5
    replace hb := hb.ext ho5
    replace hh := hh.ext ho5
    replace hp := hp.ext ho5
    replace hr := hr.ext ho5
    replace hc_ := hc_.ext ho5
    replace hf := hf.ext ho5
    replace hE := hE.step ho5 (.inl (Nat.le_refl _))
    replace hlp0 := hlp0.step ho5 (.inl (Nat.le_refl _))
    refine sd0 (d_stN hbl7 rfl rfl sz35 rfl rfl ?_)
    intro w9 hs11 ho10 hbl7'
    clear hbl7; have hbl7 := hbl7'; clear hbl7'
    have hz12 := ho10.size
    replace hX := hX.out ho10 (by first | exact hsp.bh | exact hsp.bp | exact hsp.br | exact hsp.bc | exact sepO hsp.hp | exact sepO hsp.hr | exact sepO hsp.hc | exact sepO hsp.pr | exact sepO hsp.pc | exact sepO hsp.rc | exact sepO hsp.hp.symm | exact sepO hsp.hr.symm | exact sepO hsp.hc.symm | exact sepO hsp.pr.symm | exact sepO hsp.pc.symm | exact sepO hsp.rc.symm | exact hsp.sh | exact hsp.sp | exact hsp.sr | exact hsp.sc | omega | (simp only [blk_some, hi1_some] at *; omega))
    replace hb := hb.out ho10 (by first | exact hsp.bh | exact hsp.bp | exact hsp.br | exact hsp.bc | exact sepO hsp.hp | exact sepO hsp.hr | exact sepO hsp.hc | exact sepO hsp.pr | exact sepO hsp.pc | exact sepO hsp.rc | exact sepO hsp.hp.symm | exact sepO hsp.hr.symm | exact sepO hsp.hc.symm | exact sepO hsp.pr.symm | exact sepO hsp.pc.symm | exact sepO hsp.rc.symm | exact hsp.sh | exact hsp.sp | exact hsp.sr | exact hsp.sc | omega | (simp only [blk_some, hi1_some] at *; omega))
    replace hh := hh.out ho10 (by first | exact hsp.bh | exact hsp.bp | exact hsp.br | exact hsp.bc | exact sepO hsp.hp | exact sepO hsp.hr | exact sepO hsp.hc | exact sepO hsp.pr | exact sepO hsp.pc | exact sepO hsp.rc | exact sepO hsp.hp.symm | exact sepO hsp.hr.symm | exact sepO hsp.hc.symm | exact sepO hsp.pr.symm | exact sepO hsp.pc.symm | exact sepO hsp.rc.symm | exact hsp.sh | exact hsp.sp | exact hsp.sr | exact hsp.sc | omega | (simp only [blk_some, hi1_some] at *; omega))
    replace hp := hp.out ho10 (by first | exact hsp.bh | exact hsp.bp | exact hsp.br | exact hsp.bc | exact sepO hsp.hp | exact sepO hsp.hr | exact sepO hsp.hc | exact sepO hsp.pr | exact sepO hsp.pc | exact sepO hsp.rc | exact sepO hsp.hp.symm | exact sepO hsp.hr.symm | exact sepO hsp.hc.symm | exact sepO hsp.pr.symm | exact sepO hsp.pc.symm | exact sepO hsp.rc.symm | exact hsp.sh | exact hsp.sp | exact hsp.sr | exact hsp.sc | omega | (simp only [blk_some, hi1_some] at *; omega))
    replace hr := hr.out ho10 (by first | exact hsp.bh | exact hsp.bp | exact hsp.br | exact hsp.bc | exact sepO hsp.hp | exact sepO hsp.hr | exact sepO hsp.hc | exact sepO hsp.pr | exact sepO hsp.pc | exact sepO hsp.rc | exact sepO hsp.hp.symm | exact sepO hsp.hr.symm | exact sepO hsp.hc.symm | exact sepO hsp.pr.symm | exact sepO hsp.pc.symm | exact sepO hsp.rc.symm | exact hsp.sh | exact hsp.sp | exact hsp.sr | exact hsp.sc | omega | (simp only [blk_some, hi1_some] at *; omega))
    replace hc_ := hc_.out ho10 (by first | exact hsp.bh | exact hsp.bp | exact hsp.br | exact hsp.bc | exact sepO hsp.hp | exact sepO hsp.hr | exact sepO hsp.hc | exact sepO hsp.pr | exact sepO hsp.pc | exact sepO hsp.rc | exact sepO hsp.hp.symm | exact sepO hsp.hr.symm | exact sepO hsp.hc.symm | exact sepO hsp.pr.symm | exact sepO hsp.pc.symm | exact sepO hsp.rc.symm | exact hsp.sh | exact hsp.sp | exact hsp.sr | exact hsp.sc | omega | (simp only [blk_some, hi1_some] at *; omega))
    replace hf := hf.out ho10 (by first | exact hsp.bh | exact hsp.bp | exact hsp.br | exact hsp.bc | exact sepO hsp.hp | exact sepO hsp.hr | exact sepO hsp.hc | exact sepO hsp.pr | exact sepO hsp.pc | exact sepO hsp.rc | exact sepO hsp.hp.symm | exact sepO hsp.hr.symm | exact sepO hsp.hc.symm | exact sepO hsp.pr.symm | exact sepO hsp.pc.symm | exact sepO hsp.rc.symm | exact hsp.sh | exact hsp.sp | exact hsp.sr | exact hsp.sc | omega | (simp only [blk_some, hi1_some] at *; omega))
    replace hE := hE.step ho10 (by first | exact hsp.bh | exact hsp.bp | exact hsp.br | exact hsp.bc | exact sepO hsp.hp | exact sepO hsp.hr | exact sepO hsp.hc | exact sepO hsp.pr | exact sepO hsp.pc | exact sepO hsp.rc | exact sepO hsp.hp.symm | exact sepO hsp.hr.symm | exact sepO hsp.hc.symm | exact sepO hsp.pr.symm | exact sepO hsp.pc.symm | exact sepO hsp.rc.symm | exact hsp.sh | exact hsp.sp | exact hsp.sr | exact hsp.sc | omega | (simp only [blk_some, hi1_some] at *; omega))
    replace hlp0 := hlp0.step ho10 (by first | exact hsp.bh | exact hsp.bp | exact hsp.br | exact hsp.bc | exact sepO hsp.hp | exact sepO hsp.hr | exact sepO hsp.hc | exact sepO hsp.pr | exact sepO hsp.pc | exact sepO hsp.rc | exact sepO hsp.hp.symm | exact sepO hsp.hr.symm | exact sepO hsp.hc.symm | exact sepO hsp.pr.symm | exact sepO hsp.pc.symm | exact sepO hsp.rc.symm | exact hsp.sh | exact hsp.sp | exact hsp.sr | exact hsp.sc | omega | (simp only [blk_some, hi1_some] at *; omega))
    refine rg_end ?_
    refine n_then ?_
    refine wp_seq ?_
    refine rgD 11 (fun w_ => Ext w9 w_) (fun i => false) mixed (by kernel_rfl) ?_
    intro w13 ho14 hs15
    refine ⟨ho14, ?_⟩
    have hx16 := ho14
    refine tn rfl (fun _ hG => y_fld fld35_1 rfl) ?_
    refine tn rfl (fun _ hG => y_lb (hbl7.ext hG) na3 rfl rfl) ?_
    refine tn rfl (fun _ hG => mvI rfl) ?_
    refine tn rfl (fun _ hG => y_eql rfl rfl) ?_
    refine tn rfl (fun _ hG => mvB rfl) ?_
    refine gspT 21 rfl (fun hg17 => ?_) (fun hg17 => ?_)
    ·
      have hg17n := hg17; try simp only [decide_eq_true_eq, decide_eq_false_iff_not, Bool.not_eq_true', Bool.not_eq_false', Bool.and_eq_true, Bool.or_eq_true, Bool.or_eq_false_iff, Bool.cond_true_right, Bool.cond_false_right, Bool.cond_true_left, Bool.cond_false_left, ne_eq, Decidable.not_not, bne_iff_ne, beq_iff_eq, beq_eq_false_iff_ne, Bool.not_true, Bool.not_false] at hg17n
      refine tng rfl rfl rfl hg17 (fun _ hG => mvP rfl) ?_
      refine tng rfl rfl rfl hg17 (fun _ hG => y_nil rfl) ?_
      refine tng rfl rfl rfl hg17 (fun _ hG => y_fld fld67_0 rfl) ?_
      refine tng rfl rfl rfl hg17 (fun _ hG => y_lb (hb.ext hG) na23 rfl rfl) ?_
      refine tng rfl rfl rfl hg17 (fun _ hG => y_fld fld35_0 rfl) ?_
      refine tng rfl rfl rfl hg17 (fun _ hG => y_lb (hbl7.ext hG) na3 rfl rfl) ?_
      refine t_end ?_
      have hz18 := hx16.size
      replace hX := hX.ext hx16
      replace hb := hb.ext hx16
      replace hh := hh.ext hx16
      replace hp := hp.ext hx16
      replace hr := hr.ext hx16
      replace hc_ := hc_.ext hx16
      replace hf := hf.ext hx16
      replace hE := hE.step hx16 (.inl (Nat.le_refl _))
      replace hlp0 := hlp0.step hx16 (.inl (Nat.le_refl _))
      replace hbl7 := hbl7.ext hx16
      refine stg rfl rfl hg17 (y_ix hh.sl sl23 rfl (hlh.symm) rfl (by omega) (by omega)) ?_
      refine stg rfl rfl hg17 (y_le hh.sl na3 rfl (by omega) (by omega) rfl) ?_
      refine stg rfl rfl hg17 (y_geq rfl rfl) ?_
      refine st (y_pickT rfl hg17 (v := .bool _) rfl) ?_
      refine rg_end ?_
      refine n_then ?_
      refine cnd rfl (fun hc1 => ?_) (fun hc1 => ?_)
      ·
        try simp only [decide_eq_true_eq, decide_eq_false_iff_not, Bool.not_eq_true', Bool.not_eq_false', Bool.and_eq_true, Bool.or_eq_true, Bool.or_eq_false_iff, Bool.cond_true_right, Bool.cond_false_right, Bool.cond_true_left, Bool.cond_false_left, ne_eq, Decidable.not_not, bne_iff_ne, beq_iff_eq, beq_eq_false_iff_ne, Bool.not_true, Bool.not_false] at hc1
        refine rg ?_
        refine st (mvI rfl) ?_
        refine st (y_add rfl rfl (by omega)) ?_
        refine st (asI rfl) ?_
        refine rg_end ?_
        refine n_blk ?_
        refine n_then ?_
        refine rg ?_
        refine st (y_add rfl rfl (by omega)) ?_
        refine st (mvI rfl) ?_
        refine rg_end ?_
        exact n_then ⟨(k + 1, _), _, rfl, same_lk rfl (same_h0), ⟨rfl, rfl, trivial⟩, ⟨hlp0, by omega, (by split at hcs <;> omega)⟩, by first | omega | (dsimp only; omega)⟩
      ·
        try simp only [decide_eq_true_eq, decide_eq_false_iff_not, Bool.not_eq_true', Bool.not_eq_false', Bool.and_eq_true, Bool.or_eq_true, Bool.or_eq_false_iff, Bool.cond_true_right, Bool.cond_false_right, Bool.cond_true_left, Bool.cond_false_left, ne_eq, Decidable.not_not, bne_iff_ne, beq_iff_eq, beq_eq_false_iff_ne, Bool.not_true, Bool.not_false] at hc1
        refine wp_skip ?_
        refine n_blk ?_
        refine n_then ?_
        refine rg ?_
        refine st (y_add rfl rfl (by omega)) ?_
        refine st (mvI rfl) ?_
        refine rg_end ?_
        exact n_then ⟨(k + 1, _), _, rfl, same_lk rfl (same_h0), ⟨rfl, rfl, trivial⟩, ⟨hlp0, by omega, (by split at hcs <;> omega)⟩, by first | omega | (dsimp only; omega)⟩
    ·
      have hg17n := hg17; try simp only [decide_eq_true_eq, decide_eq_false_iff_not, Bool.not_eq_true', Bool.not_eq_false', Bool.and_eq_true, Bool.or_eq_true, Bool.or_eq_false_iff, Bool.cond_true_right, Bool.cond_false_right, Bool.cond_true_left, Bool.cond_false_left, ne_eq, Decidable.not_not, bne_iff_ne, beq_iff_eq, beq_eq_false_iff_ne, Bool.not_true, Bool.not_false] at hg17n
      refine tns rfl rfl hg17 ?_
      refine tns rfl rfl hg17 ?_
      refine tns rfl rfl hg17 ?_
      refine tns rfl rfl hg17 ?_
      refine tns rfl rfl hg17 ?_
      refine tns rfl rfl hg17 ?_
      refine t_end ?_
      have hz19 := hx16.size
      replace hX := hX.ext hx16
      replace hb := hb.ext hx16
      replace hh := hh.ext hx16
      replace hp := hp.ext hx16
      replace hr := hr.ext hx16
      replace hc_ := hc_.ext hx16
      replace hf := hf.ext hx16
      replace hE := hE.step hx16 (.inl (Nat.le_refl _))
      replace hlp0 := hlp0.step hx16 (.inl (Nat.le_refl _))
      replace hbl7 := hbl7.ext hx16
      refine sts rfl rfl hg17 ?_
      refine sts rfl rfl hg17 ?_
      refine sts rfl rfl hg17 ?_
      refine st (y_pickF rfl hg17 (v := .bool _) rfl) ?_
      refine rg_end ?_
      refine n_then ?_
      refine cnd rfl (fun hc1 => absurd hc1 (by decide)) (fun hc1 => ?_)
      refine wp_skip ?_
      refine n_blk ?_
      refine n_then ?_
      refine rg ?_
      refine st (y_add rfl rfl (by omega)) ?_
      refine st (mvI rfl) ?_
      refine rg_end ?_
      exact n_then ⟨(k + 1, _), _, rfl, same_lk rfl (same_h0), ⟨rfl, rfl, trivial⟩, ⟨hlp0, by omega, (by split at hcs <;> omega)⟩, by first | omega | (dsimp only; omega)⟩
  ·
    try simp only [decide_eq_true_eq, decide_eq_false_iff_not, Bool.not_eq_true', Bool.not_eq_false', Bool.and_eq_true, Bool.or_eq_true, Bool.or_eq_false_iff, Bool.cond_true_right, Bool.cond_false_right, Bool.cond_true_left, Bool.cond_false_left, ne_eq, Decidable.not_not, bne_iff_ne, beq_iff_eq, beq_eq_false_iff_ne, Bool.not_true, Bool.not_false] at hc0
    refine wp_exit ?_
    refine e_then (e_then (e_blk (?_)))
    refine n_then ?_
    refine wp_seq ?_
    refine rg ?_
    refine st (mvI rfl) ?_
    refine st (asI rfl) ?_
    refine rg_end ?_
    refine n_then ?_
    refine wp_ret ?_
    refine ret1 (v := (.int .i64 _)) Try.results46 rfl ?_
    exact ⟨vi (by rw [hq]; exact cnt_end hc0), hE⟩

set_option maxRecDepth 100000 in
theorem rlk_lock_ok (S : IS) (lo hi b : Nat) (t : Int) (k : Lk) (w : World) (hX : Rlk lo hi b w S) (hS : IsOk S) (hk : 0 ≤ k.rs ∧ k.rs < S.rs.length) (ht : 0 ≤ t) : Cal Try.prog 45 [.pointer (some ⟨b, 0, none⟩), .int .i64 t, .agg (encLk k).toArray] w (fun v w' => v = .int .i64 (lkE S t k) ∧ Ext w w') := by
  obtain ⟨ah, ch, ap, cp, ar, cr, ac, cc, au, cu, l2, h2, hb, hh, hp, hr, hc_, hf, hl2, hh2, hlb, hbh, hhi, hsp⟩ := hX.ex
  have hbl := hb.lt
  have hpos : 0 < w.heap.size := by omega
  have hx1 := hh.blt hpos
  have hx2 := hp.blt hpos
  have hx3 := hr.blt hpos
  have hx4 := hc_.blt hpos
  have hn1 := hS.n1
  have hn2 := hS.n2
  have hlh : (S.rs.map Rs.ho).length = S.rs.length := by simp
  have hlp : (S.rs.map Rs.po).length = S.rs.length := by simp
  have hlr : (S.rs.map Rs.re).length = S.rs.length := by simp
  have hlc : (S.rs.map Rs.cl).length = S.rs.length := by simp
  have hho := hS.ho _ (el_mem (l := S.rs) hk.1 hk.2)
  have e_ho := el_map (l := S.rs) (g := Rs.ho) (i := k.rs) hk.1 hk.2
  have e_po := el_map (l := S.rs) (g := Rs.po) (i := k.rs) hk.1 hk.2
  have e_re := el_map (l := S.rs) (g := Rs.re) (i := k.rs) hk.1 hk.2
  have e_cl := el_map (l := S.rs) (g := Rs.cl) (i := k.rs) hk.1 hk.2
  have hE : Out 0 0 w w := Out.refl _ _ w
  refine enter Try.func45 rfl Try.ntmps45 rfl ?_
  refine wp_seq ?_
  refine rg ?_
  refine sd (d_boxA rfl ?_)
  intro b5 w1 hbb5 hs3 ho2 hb5
  have hz4 := ho2.size
  replace hX := hX.ext ho2
  replace hb := hb.ext ho2
  replace hh := hh.ext ho2
  replace hp := hp.ext ho2
  replace hr := hr.ext ho2
  replace hc_ := hc_.ext ho2
  replace hf := hf.ext ho2
  replace hE := hE.step ho2 (.inl (Nat.le_refl _))
  refine st (asI rfl) ?_
  refine rg_end ?_
  refine n_then ?_
  refine wp_seq ?_
  refine rg ?_
  refine st (y_fld fld45_0 rfl) ?_
  refine st (y_lb hb5 na3 rfl rfl) ?_
  refine st (asI rfl) ?_
  refine rg_end ?_
  refine n_then ?_
  refine cut (γ := Unit) [8, 11, 12, 13, 14, 15, 16, 17, 18, 19, 20, 21, 22, 23, 24, 25] (fun _ => [(8, .bool (mvs S k))]) (fun _ w_ => Ext w1 w_ ∧ True) ?_ ?_
  ·
    have hcut := Out.refl 0 0 w1
    refine rgD 13 (fun w_ => Ext w1 w_) (fun i => false) mixed (by kernel_rfl) ?_
    intro w5 ho6 hs7
    refine ⟨ho6, ?_⟩
    have hx8 := ho6
    refine tn rfl (fun _ hG => y_fld fld45_1 rfl) ?_
    refine tn rfl (fun _ hG => y_lb (hb5.ext hG) na3 rfl rfl) ?_
    refine tn rfl (fun _ hG => y_geq rfl rfl) ?_
    refine tn rfl (fun _ hG => mvB rfl) ?_
    refine gspT 14 rfl (fun hg9 => ?_) (fun hg9 => ?_)
    ·
      have hg9n := hg9; try simp only [decide_eq_true_eq, decide_eq_false_iff_not, Bool.not_eq_true', Bool.not_eq_false', Bool.and_eq_true, Bool.or_eq_true, Bool.or_eq_false_iff, Bool.cond_true_right, Bool.cond_false_right, Bool.cond_true_left, Bool.cond_false_left, ne_eq, Decidable.not_not, bne_iff_ne, beq_iff_eq, beq_eq_false_iff_ne, Bool.not_true, Bool.not_false] at hg9n
      refine tng rfl rfl rfl hg9 (fun _ hG => y_fld fld45_1 rfl) ?_
      refine tng rfl rfl rfl hg9 (fun _ hG => y_lb (hb5.ext hG) na3 rfl rfl) ?_
      refine tng rfl rfl rfl hg9 (fun _ hG => mvP rfl) ?_
      refine tng rfl rfl rfl hg9 (fun _ hG => y_nil rfl) ?_
      refine tng rfl rfl rfl hg9 (fun _ hG => y_fld fld67_1 rfl) ?_
      refine tng rfl rfl rfl hg9 (fun _ hG => y_lb (hb.ext hG) na23 rfl rfl) ?_
      refine tng rfl rfl rfl hg9 (fun _ hG => mvI rfl) ?_
      refine tng rfl rfl rfl hg9 (fun _ hG => y_ix (hp.ext hG).sl sl23 rfl (hlp.symm) rfl (by omega) (by omega)) ?_
      refine tng rfl rfl rfl hg9 (fun _ hG => y_le (hp.ext hG).sl na3 rfl (by omega) (by omega) rfl) ?_
      refine t_end ?_
      have hz10 := hx8.size
      replace hX := hX.ext hx8
      replace hb := hb.ext hx8
      replace hh := hh.ext hx8
      replace hp := hp.ext hx8
      replace hr := hr.ext hx8
      replace hc_ := hc_.ext hx8
      replace hf := hf.ext hx8
      replace hE := hE.step hx8 (.inl (Nat.le_refl _))
      replace hb5 := hb5.ext hx8
      replace hcut := hcut.step hx8 (.inl (Nat.le_refl _))
      refine stg rfl rfl hg9 (y_neq rfl rfl) ?_
      refine st (y_pickT rfl hg9 (v := .bool _) rfl) ?_
      refine st (asB rfl) ?_
      refine rg_end ?_
      exact n_then ⟨(), _, rfl, same_lk rfl (same_rfl), ⟨vb (by simp only [mvs, ← e_po, decide_eq_true_eq, decide_eq_false_iff_not, Bool.not_eq_true', Bool.not_eq_eq_eq_not, Bool.not_true, Bool.false_eq_true, false_iff, true_iff, iff_true, iff_false]; omega), trivial⟩, ⟨hcut, trivial⟩⟩
    ·
      have hg9n := hg9; try simp only [decide_eq_true_eq, decide_eq_false_iff_not, Bool.not_eq_true', Bool.not_eq_false', Bool.and_eq_true, Bool.or_eq_true, Bool.or_eq_false_iff, Bool.cond_true_right, Bool.cond_false_right, Bool.cond_true_left, Bool.cond_false_left, ne_eq, Decidable.not_not, bne_iff_ne, beq_iff_eq, beq_eq_false_iff_ne, Bool.not_true, Bool.not_false] at hg9n
      refine tns rfl rfl hg9 ?_
      refine tns rfl rfl hg9 ?_
      refine tns rfl rfl hg9 ?_
      refine tns rfl rfl hg9 ?_
      refine tns rfl rfl hg9 ?_
      refine tns rfl rfl hg9 ?_
      refine tns rfl rfl hg9 ?_
      refine tns rfl rfl hg9 ?_
      refine tns rfl rfl hg9 ?_
      refine t_end ?_
      have hz11 := hx8.size
      replace hX := hX.ext hx8
      replace hb := hb.ext hx8
      replace hh := hh.ext hx8
      replace hp := hp.ext hx8
      replace hr := hr.ext hx8
      replace hc_ := hc_.ext hx8
      replace hf := hf.ext hx8
      replace hE := hE.step hx8 (.inl (Nat.le_refl _))
      replace hb5 := hb5.ext hx8
      replace hcut := hcut.step hx8 (.inl (Nat.le_refl _))
      refine sts rfl rfl hg9 ?_
      refine st (y_pickF rfl hg9 (v := .bool _) rfl) ?_
      refine st (asB rfl) ?_
      refine rg_end ?_
      exact n_then ⟨(), _, rfl, same_lk rfl (same_rfl), ⟨vb (by simp only [mvs, ← e_po, decide_eq_true_eq, decide_eq_false_iff_not, Bool.not_eq_true', Bool.not_eq_eq_eq_not, Bool.not_true, Bool.false_eq_true, false_iff, true_iff, iff_true, iff_false]; omega), trivial⟩, ⟨hcut, trivial⟩⟩
  ·
    rintro _ hav_ w12 ⟨ho13, _⟩
    have hz14 := ho13.size
    replace hX := hX.ext ho13
    replace hb := hb.ext ho13
    replace hh := hh.ext ho13
    replace hp := hp.ext ho13
    replace hr := hr.ext ho13
    replace hc_ := hc_.ext ho13
    replace hf := hf.ext ho13
    replace hE := hE.step ho13 (.inl (Nat.le_refl _))
    replace hb5 := hb5.ext ho13
    refine wp_seq ?_
    refine cut (γ := Unit) [26, 27, 28, 29, 30, 31, 32, 33, 34, 35, 36, 37, 38, 39, 40, 41, 42, 43, 44] (fun _ => [(44, .bool (decide ((el S.rs k.rs).ho ≠ -1 ∧ (el S.rs k.rs).ho ≠ t)))]) (fun _ w_ => Ext w12 w_ ∧ True) ?_ ?_
    ·
      have hcut := Out.refl 0 0 w12
      refine rg ?_
      refine st (mvP rfl) ?_
      refine st (y_nil rfl) ?_
      refine st (y_fld fld67_0 rfl) ?_
      refine st (y_lb hb na23 rfl rfl) ?_
      refine st (mvI rfl) ?_
      refine st (y_ix hh.sl sl23 rfl (hlh.symm) rfl (by omega) (by omega)) ?_
      refine st (y_le hh.sl na3 rfl (by omega) (by omega) rfl) ?_
      refine st (y_geq rfl rfl) ?_
      refine st (mvB rfl) ?_
      refine gspL 34 rfl (fun hg15 => ?_) (fun hg15 => ?_)
      ·
        have hg15n := hg15; try simp only [decide_eq_true_eq, decide_eq_false_iff_not, Bool.not_eq_true', Bool.not_eq_false', Bool.and_eq_true, Bool.or_eq_true, Bool.or_eq_false_iff, Bool.cond_true_right, Bool.cond_false_right, Bool.cond_true_left, Bool.cond_false_left, ne_eq, Decidable.not_not, bne_iff_ne, beq_iff_eq, beq_eq_false_iff_ne, Bool.not_true, Bool.not_false] at hg15n
        refine stg rfl rfl hg15 (mvP rfl) ?_
        refine stg rfl rfl hg15 (y_nil rfl) ?_
        refine stg rfl rfl hg15 (y_fld fld67_0 rfl) ?_
        refine stg rfl rfl hg15 (y_lb hb na23 rfl rfl) ?_
        refine stg rfl rfl hg15 (mvI rfl) ?_
        refine stg rfl rfl hg15 (y_ix hh.sl sl23 rfl (hlh.symm) rfl (by omega) (by omega)) ?_
        refine stg rfl rfl hg15 (y_le hh.sl na3 rfl (by omega) (by omega) rfl) ?_
        refine stg rfl rfl hg15 (mvI rfl) ?_
        refine stg rfl rfl hg15 (y_neq rfl rfl) ?_
        refine st (y_pickT rfl hg15 (v := .bool _) rfl) ?_
        refine rg_end ?_
        exact n_then ⟨(), _, rfl, same_lk rfl (same_rfl), ⟨vb (by simp only [← e_ho, decide_eq_true_eq, decide_eq_false_iff_not, Bool.not_eq_true', Bool.not_eq_eq_eq_not, Bool.not_true, Bool.false_eq_true, false_iff, true_iff, iff_true, iff_false]; omega), trivial⟩, ⟨hcut, trivial⟩⟩
      ·
        have hg15n := hg15; try simp only [decide_eq_true_eq, decide_eq_false_iff_not, Bool.not_eq_true', Bool.not_eq_false', Bool.and_eq_true, Bool.or_eq_true, Bool.or_eq_false_iff, Bool.cond_true_right, Bool.cond_false_right, Bool.cond_true_left, Bool.cond_false_left, ne_eq, Decidable.not_not, bne_iff_ne, beq_iff_eq, beq_eq_false_iff_ne, Bool.not_true, Bool.not_false] at hg15n
        refine sts rfl rfl hg15 ?_
        refine sts rfl rfl hg15 ?_
        refine sts rfl rfl hg15 ?_
        refine sts rfl rfl hg15 ?_
        refine sts rfl rfl hg15 ?_
        refine sts rfl rfl hg15 ?_
        refine sts rfl rfl hg15 ?_
        refine sts rfl rfl hg15 ?_
        refine sts rfl rfl hg15 ?_
        refine st (y_pickF rfl hg15 (v := .bool _) rfl) ?_
        refine rg_end ?_
        exact n_then ⟨(), _, rfl, same_lk rfl (same_rfl), ⟨vb (by simp only [← e_ho, decide_eq_true_eq, decide_eq_false_iff_not, Bool.not_eq_true', Bool.not_eq_eq_eq_not, Bool.not_true, Bool.false_eq_true, false_iff, true_iff, iff_true, iff_false]; omega), trivial⟩, ⟨hcut, trivial⟩⟩
    ·
      rintro _ hav_ w16 ⟨ho17, _⟩
      have hz18 := ho17.size
      replace hX := hX.ext ho17
      replace hb := hb.ext ho17
      replace hh := hh.ext ho17
      replace hp := hp.ext ho17
      replace hr := hr.ext ho17
      replace hc_ := hc_.ext ho17
      replace hf := hf.ext ho17
      replace hE := hE.step ho17 (.inl (Nat.le_refl _))
      replace hb5 := hb5.ext ho17
      refine cnd rfl (fun hc0 => ?_) (fun hc0 => ?_)
      ·
        try simp only [decide_eq_true_eq, decide_eq_false_iff_not, Bool.not_eq_true', Bool.not_eq_false', Bool.and_eq_true, Bool.or_eq_true, Bool.or_eq_false_iff, Bool.cond_true_right, Bool.cond_false_right, Bool.cond_true_left, Bool.cond_false_left, ne_eq, Decidable.not_not, bne_iff_ne, beq_iff_eq, beq_eq_false_iff_ne, Bool.not_true, Bool.not_false] at hc0
        refine wp_seq ?_
        refine rg ?_
        refine st (asI rfl) ?_
        refine rg_end ?_
        refine n_then ?_
        refine wp_ret ?_
        refine r_then (ret1 (v := (.int .i64 _)) Try.results45 rfl ?_)
        exact ⟨vi (by unfold lkE; rw [if_neg hc0.2, if_pos hc0.1]), hE⟩
      ·
        try simp only [decide_eq_true_eq, decide_eq_false_iff_not, Bool.not_eq_true', Bool.not_eq_false', Bool.and_eq_true, Bool.or_eq_true, Bool.or_eq_false_iff, Bool.cond_true_right, Bool.cond_false_right, Bool.cond_true_left, Bool.cond_false_left, ne_eq, Decidable.not_not, bne_iff_ne, beq_iff_eq, beq_eq_false_iff_ne, Bool.not_true, Bool.not_false] at hc0
        refine wp_skip ?_
        refine n_then ?_
        refine wp_seq ?_
        refine wp_seq ?_
        refine rg ?_
        refine st (mvP rfl) ?_
        refine st (y_nil rfl) ?_
        refine st (y_fld fld67_0 rfl) ?_
        refine st (y_lb hb na23 rfl rfl) ?_
        refine st (mvI rfl) ?_
        refine st (y_ix hh.sl sl23 rfl (hlh.symm) rfl (by omega) (by omega)) ?_
        refine st (y_le hh.sl na3 rfl (by omega) (by omega) rfl) ?_
        refine st (mvI rfl) ?_
        refine st (y_eql rfl rfl) ?_
        refine rg_end ?_
        refine n_then ?_
        refine cnd rfl (fun hc1 => ?_) (fun hc1 => ?_)
        ·
          try simp only [decide_eq_true_eq, decide_eq_false_iff_not, Bool.not_eq_true', Bool.not_eq_false', Bool.and_eq_true, Bool.or_eq_true, Bool.or_eq_false_iff, Bool.cond_true_right, Bool.cond_false_right, Bool.cond_true_left, Bool.cond_false_left, ne_eq, Decidable.not_not, bne_iff_ne, beq_iff_eq, beq_eq_false_iff_ne, Bool.not_true, Bool.not_false] at hc1
          have hc1' : (el S.rs k.rs).ho = t := e_ho.symm.trans hc1
          refine wp_seq ?_
          refine wp_seq ?_
          refine rg ?_
          refine st (mvB rfl) ?_
          refine rg_end ?_
          refine n_then ?_
          refine cnd rfl (fun hc2 => ?_) (fun hc2 => ?_)
          ·
            try simp only [decide_eq_true_eq, decide_eq_false_iff_not, Bool.not_eq_true', Bool.not_eq_false', Bool.and_eq_true, Bool.or_eq_true, Bool.or_eq_false_iff, Bool.cond_true_right, Bool.cond_false_right, Bool.cond_true_left, Bool.cond_false_left, ne_eq, Decidable.not_not, bne_iff_ne, beq_iff_eq, beq_eq_false_iff_ne, Bool.not_true, Bool.not_false] at hc2
            refine wp_seq ?_
            refine rg ?_
            refine st (asI rfl) ?_
            refine rg_end ?_
            refine n_then ?_
            refine wp_ret ?_
            refine r_then (r_then (ret1 (v := (.int .i64 _)) Try.results45 rfl ?_))
            exact ⟨vi (by unfold lkE; rw [if_pos hc1', if_pos hc2]), hE⟩
          ·
            try simp only [decide_eq_true_eq, decide_eq_false_iff_not, Bool.not_eq_true', Bool.not_eq_false', Bool.and_eq_true, Bool.or_eq_true, Bool.or_eq_false_iff, Bool.cond_true_right, Bool.cond_false_right, Bool.cond_true_left, Bool.cond_false_left, ne_eq, Decidable.not_not, bne_iff_ne, beq_iff_eq, beq_eq_false_iff_ne, Bool.not_true, Bool.not_false] at hc2
            refine wp_skip ?_
            refine n_then ?_
            refine wp_seq ?_
            refine rg ?_
            refine st (asI rfl) ?_
            refine rg_end ?_
            refine n_then ?_
            refine wp_ret ?_
            refine r_then (ret1 (v := (.int .i64 _)) Try.results45 rfl ?_)
            exact ⟨vi (by unfold lkE; rw [if_pos hc1', if_neg (by rw [hc2]; decide)]), hE⟩
        ·
          try simp only [decide_eq_true_eq, decide_eq_false_iff_not, Bool.not_eq_true', Bool.not_eq_false', Bool.and_eq_true, Bool.or_eq_true, Bool.or_eq_false_iff, Bool.cond_true_right, Bool.cond_false_right, Bool.cond_true_left, Bool.cond_false_left, ne_eq, Decidable.not_not, bne_iff_ne, beq_iff_eq, beq_eq_false_iff_ne, Bool.not_true, Bool.not_false] at hc1
          have hc1' : ¬ (el S.rs k.rs).ho = t := fun h => hc1 (e_ho.trans h)
          have hfree : (el S.rs k.rs).ho = -1 := by omega
          refine wp_skip ?_
          refine n_then ?_
          refine wp_seq ?_
          refine wp_block ?_
          refine wp_seq ?_
          refine rg ?_
          refine st (mvP rfl) ?_
          refine st (y_nil rfl) ?_
          refine st (y_fld fld67_3 rfl) ?_
          refine st (y_lb hb na65 rfl rfl) ?_
          refine st (mvI rfl) ?_
          refine st (y_ix hc_.sl sl65 rfl (hlc.symm) rfl (by omega) (by omega)) ?_
          refine st (y_le hc_.sl na4 rfl (by omega) (by omega) rfl) ?_
          refine st (asB rfl) ?_
          refine rg_end ?_
          refine n_then ?_
          refine cnd rfl (fun hc3 => ?_) (fun hc3 => ?_)
          ·
            try simp only [decide_eq_true_eq, decide_eq_false_iff_not, Bool.not_eq_true', Bool.not_eq_false', Bool.and_eq_true, Bool.or_eq_true, Bool.or_eq_false_iff, Bool.cond_true_right, Bool.cond_false_right, Bool.cond_true_left, Bool.cond_false_left, ne_eq, Decidable.not_not, bne_iff_ne, beq_iff_eq, beq_eq_false_iff_ne, Bool.not_true, Bool.not_false] at hc3
            have hc3' : (el S.rs k.rs).cl = true := e_cl.symm.trans hc3
            refine wp_seq ?_
            refine rg ?_
            refine st (asI rfl) ?_
            refine rg_end ?_
            refine n_then ?_
            refine wp_ret ?_
            refine r_blk (r_then (ret1 (v := (.int .i64 _)) Try.results45 rfl ?_))
            exact ⟨vi (by unfold lkE; rw [if_neg hc1', if_neg (not_not_intro hfree), if_pos hc3']), hE⟩
          ·
            try simp only [decide_eq_true_eq, decide_eq_false_iff_not, Bool.not_eq_true', Bool.not_eq_false', Bool.and_eq_true, Bool.or_eq_true, Bool.or_eq_false_iff, Bool.cond_true_right, Bool.cond_false_right, Bool.cond_true_left, Bool.cond_false_left, ne_eq, Decidable.not_not, bne_iff_ne, beq_iff_eq, beq_eq_false_iff_ne, Bool.not_true, Bool.not_false] at hc3
            have hc3' : (el S.rs k.rs).cl = false := e_cl.symm.trans hc3
            refine wp_seq ?_
            refine rg ?_
            refine st (mvP rfl) ?_
            refine st (y_nil rfl) ?_
            refine st (y_fld fld67_2 rfl) ?_
            refine st (y_lb hb na23 rfl rfl) ?_
            refine st (mvI rfl) ?_
            refine st (y_ix hr.sl sl23 rfl (hlr.symm) rfl (by omega) (by omega)) ?_
            refine st (y_le hr.sl na3 rfl (by omega) (by omega) rfl) ?_
            refine st (y_neq rfl rfl) ?_
            refine st (asB rfl) ?_
            refine rg_end ?_
            refine n_then ?_
            refine cnd rfl (fun hc4 => ?_) (fun hc4 => ?_)
            ·
              try simp only [decide_eq_true_eq, decide_eq_false_iff_not, Bool.not_eq_true', Bool.not_eq_false', Bool.and_eq_true, Bool.or_eq_true, Bool.or_eq_false_iff, Bool.cond_true_right, Bool.cond_false_right, Bool.cond_true_left, Bool.cond_false_left, ne_eq, Decidable.not_not, bne_iff_ne, beq_iff_eq, beq_eq_false_iff_ne, Bool.not_true, Bool.not_false] at hc4
              have hc4' : ¬ (el S.rs k.rs).re = 0 := fun h => hc4 (e_re.trans h)
              refine wp_seq ?_
              refine rg ?_
              refine st (asI rfl) ?_
              refine rg_end ?_
              refine n_then ?_
              refine wp_ret ?_
              refine r_blk (r_then (ret1 (v := (.int .i64 _)) Try.results45 rfl ?_))
              exact ⟨vi (by unfold lkE; rw [if_neg hc1', if_neg (not_not_intro hfree), if_neg (by rw [hc3']; decide), if_pos hc4']), hE⟩
            ·
              try simp only [decide_eq_true_eq, decide_eq_false_iff_not, Bool.not_eq_true', Bool.not_eq_false', Bool.and_eq_true, Bool.or_eq_true, Bool.or_eq_false_iff, Bool.cond_true_right, Bool.cond_false_right, Bool.cond_true_left, Bool.cond_false_left, ne_eq, Decidable.not_not, bne_iff_ne, beq_iff_eq, beq_eq_false_iff_ne, Bool.not_true, Bool.not_false] at hc4
              have hc4' : (el S.rs k.rs).re = 0 := e_re.symm.trans hc4
              refine cut (γ := Unit) [72, 73, 74, 75, 76, 77, 78, 79] (fun _ => [(72, .bool (decide (mvs S k = true ∧ 0 < flk S k.rs)))]) (fun _ w_ => Ext w16 w_ ∧ True) ?_ ?_
              ·
                have hcut := Out.refl 0 0 w16
                refine rg ?_
                refine st (mvB rfl) ?_
                refine st (mvB rfl) ?_
                refine gspL 74 rfl (fun hg19 => ?_) (fun hg19 => ?_)
                ·
                  have hg19n := hg19; try simp only [decide_eq_true_eq, decide_eq_false_iff_not, Bool.not_eq_true', Bool.not_eq_false', Bool.and_eq_true, Bool.or_eq_true, Bool.or_eq_false_iff, Bool.cond_true_right, Bool.cond_false_right, Bool.cond_true_left, Bool.cond_false_left, ne_eq, Decidable.not_not, bne_iff_ne, beq_iff_eq, beq_eq_false_iff_ne, Bool.not_true, Bool.not_false] at hg19n
                  refine stg rfl rfl hg19 (mvP rfl) ?_
                  refine stg rfl rfl hg19 (mvI rfl) ?_
                  refine scg rfl rfl hg19 cl46 (rlk_Flanks_ok S _ _ _ _ _ hX hS) rfl ?_
                  rintro v24 w20 ⟨rfl, ho21⟩
                  have hz25 := ho21.size
                  replace hX := hX.ext ho21
                  replace hb := hb.ext ho21
                  replace hh := hh.ext ho21
                  replace hp := hp.ext ho21
                  replace hr := hr.ext ho21
                  replace hc_ := hc_.ext ho21
                  replace hf := hf.ext ho21
                  replace hE := hE.step ho21 (.inl (Nat.le_refl _))
                  replace hb5 := hb5.ext ho21
                  replace hcut := hcut.step ho21 (.inl (Nat.le_refl _))
                  refine stg rfl rfl hg19 (y_gtr rfl rfl) ?_
                  refine st (y_pickT rfl hg19 (v := .bool _) rfl) ?_
                  refine st (asB rfl) ?_
                  refine rg_end ?_
                  exact n_then ⟨(), _, rfl, same_lk rfl (same_rfl), ⟨vb (by simp_all), trivial⟩, ⟨hcut, trivial⟩⟩
                ·
                  have hg19n := hg19; try simp only [decide_eq_true_eq, decide_eq_false_iff_not, Bool.not_eq_true', Bool.not_eq_false', Bool.and_eq_true, Bool.or_eq_true, Bool.or_eq_false_iff, Bool.cond_true_right, Bool.cond_false_right, Bool.cond_true_left, Bool.cond_false_left, ne_eq, Decidable.not_not, bne_iff_ne, beq_iff_eq, beq_eq_false_iff_ne, Bool.not_true, Bool.not_false] at hg19n
                  refine sts rfl rfl hg19 ?_
                  refine sts rfl rfl hg19 ?_
                  refine sts rfl rfl hg19 ?_
                  refine sts rfl rfl hg19 ?_
                  refine st (y_pickF rfl hg19 (v := .bool _) rfl) ?_
                  refine st (asB rfl) ?_
                  refine rg_end ?_
                  exact n_then ⟨(), _, rfl, same_lk rfl (same_rfl), ⟨vb (by simp_all), trivial⟩, ⟨hcut, trivial⟩⟩
              ·
                rintro _ hav_ w26 ⟨ho27, _⟩
                have hz28 := ho27.size
                replace hX := hX.ext ho27
                replace hb := hb.ext ho27
                replace hh := hh.ext ho27
                replace hp := hp.ext ho27
                replace hr := hr.ext ho27
                replace hc_ := hc_.ext ho27
                replace hf := hf.ext ho27
                replace hE := hE.step ho27 (.inl (Nat.le_refl _))
                replace hb5 := hb5.ext ho27
                refine cnd rfl (fun hc5 => ?_) (fun hc5 => ?_)
                ·
                  try simp only [decide_eq_true_eq, decide_eq_false_iff_not, Bool.not_eq_true', Bool.not_eq_false', Bool.and_eq_true, Bool.or_eq_true, Bool.or_eq_false_iff, Bool.cond_true_right, Bool.cond_false_right, Bool.cond_true_left, Bool.cond_false_left, ne_eq, Decidable.not_not, bne_iff_ne, beq_iff_eq, beq_eq_false_iff_ne, Bool.not_true, Bool.not_false] at hc5
                  refine wp_seq ?_
                  refine rg ?_
                  refine st (asI rfl) ?_
                  refine rg_end ?_
                  refine n_then ?_
                  refine wp_ret ?_
                  refine r_blk (r_then (ret1 (v := (.int .i64 _)) Try.results45 rfl ?_))
                  exact ⟨vi (by unfold lkE; rw [if_neg hc1', if_neg (not_not_intro hfree), if_neg (by rw [hc3']; decide), if_neg (not_not_intro hc4'), if_pos hc5]), hE⟩
                ·
                  try simp only [decide_eq_true_eq, decide_eq_false_iff_not, Bool.not_eq_true', Bool.not_eq_false', Bool.and_eq_true, Bool.or_eq_true, Bool.or_eq_false_iff, Bool.cond_true_right, Bool.cond_false_right, Bool.cond_true_left, Bool.cond_false_left, ne_eq, Decidable.not_not, bne_iff_ne, beq_iff_eq, beq_eq_false_iff_ne, Bool.not_true, Bool.not_false] at hc5
                  refine wp_skip ?_
                  refine n_blk ?_
                  refine n_then ?_
                  refine wp_seq ?_
                  refine rg ?_
                  refine st (asI rfl) ?_
                  refine rg_end ?_
                  refine n_then ?_
                  refine wp_ret ?_
                  refine ret1 (v := (.int .i64 _)) Try.results45 rfl ?_
                  exact ⟨vi (by unfold lkE; rw [if_neg hc1', if_neg (not_not_intro hfree), if_neg (by rw [hc3']; decide), if_neg (not_not_intro hc4'), if_neg hc5]), hE⟩

set_option maxRecDepth 100000 in
theorem rlk_Free_ok (S : IS) (lo hi b : Nat) (t r : Int) (w : World) (hX : Rlk lo hi b w S) (hS : IsOk S)  : Cal Try.prog 30 [.pointer (some ⟨b, 0, none⟩), .int .i64 t, .int .i64 r] w (fun v w' => v = .int .i64 (freeE S t r) ∧ Rlk lo hi b w' (freeS S t r) ∧ Out lo hi w w') := by
  obtain ⟨ah, ch, ap, cp, ar, cr, ac, cc, au, cu, l2, h2, hb, hh, hp, hr, hc_, hf, hl2, hh2, hlb, hbh, hhi, hsp⟩ := hX.ex
  have hbl := hb.lt
  have hpos : 0 < w.heap.size := by omega
  have hx1 := hh.blt hpos
  have hx2 := hp.blt hpos
  have hx3 := hr.blt hpos
  have hx4 := hc_.blt hpos
  have hn1 := hS.n1
  have hn2 := hS.n2
  have hlh : (S.rs.map Rs.ho).length = S.rs.length := by simp
  have hlp : (S.rs.map Rs.po).length = S.rs.length := by simp
  have hlr : (S.rs.map Rs.re).length = S.rs.length := by simp
  have hlc : (S.rs.map Rs.cl).length = S.rs.length := by simp
  have hE : Out lo hi w w := Out.refl _ _ w
  refine enter Try.func30 rfl Try.ntmps30 rfl ?_
  refine wp_seq ?_
  refine rg ?_
  refine st (asI rfl) ?_
  refine rg_end ?_
  refine n_then ?_
  refine wp_seq ?_
  refine wp_block ?_
  refine cut (γ := Unit) [7, 8, 9, 10, 11, 12, 13, 14, 15, 16, 17, 18, 19] (fun _ => [(7, .bool (decide (¬ (okT t = true ∧ isR S r = true))))]) (fun _ w_ => Ext w w_ ∧ True) ?_ ?_
  ·
    have hcut := Out.refl 0 0 w
    refine rg ?_
    refine st (mvI rfl) ?_
    refine st (y_lss rfl rfl) ?_
    refine st (mvB rfl) ?_
    refine gspL 10 rfl (fun hg1 => ?_) (fun hg1 => ?_)
    ·
      have hg1n := hg1; try simp only [decide_eq_true_eq, decide_eq_false_iff_not, Bool.not_eq_true', Bool.not_eq_false', Bool.and_eq_true, Bool.or_eq_true, Bool.or_eq_false_iff, Bool.cond_true_right, Bool.cond_false_right, Bool.cond_true_left, Bool.cond_false_left, ne_eq, Decidable.not_not, bne_iff_ne, beq_iff_eq, beq_eq_false_iff_ne, Bool.not_true, Bool.not_false] at hg1n
      refine sts rfl rfl hg1 ?_
      refine sts rfl rfl hg1 ?_
      refine st (y_pickT rfl hg1 (v := .bool _) rfl) ?_
      refine st (mvB rfl) ?_
      refine sts rfl rfl rfl ?_
      refine sts rfl rfl rfl ?_
      refine sts rfl rfl rfl ?_
      refine sts rfl rfl rfl ?_
      refine st (y_pickT rfl rfl (v := .bool _) rfl) ?_
      refine st (asB rfl) ?_
      refine rg_end ?_
      exact n_then ⟨(), _, rfl, same_lk rfl (same_rfl), ⟨vb (by simp only [okT, isR, Bool.and_eq_true, decide_eq_true_eq, decide_eq_false_iff_not, Bool.not_eq_true', Bool.not_eq_eq_eq_not, Bool.not_true, Bool.false_eq_true, false_iff, true_iff, iff_true, iff_false]; omega), trivial⟩, ⟨hcut, trivial⟩⟩
    ·
      have hg1n := hg1; try simp only [decide_eq_true_eq, decide_eq_false_iff_not, Bool.not_eq_true', Bool.not_eq_false', Bool.and_eq_true, Bool.or_eq_true, Bool.or_eq_false_iff, Bool.cond_true_right, Bool.cond_false_right, Bool.cond_true_left, Bool.cond_false_left, ne_eq, Decidable.not_not, bne_iff_ne, beq_iff_eq, beq_eq_false_iff_ne, Bool.not_true, Bool.not_false] at hg1n
      refine stg rfl rfl hg1 (mvI rfl) ?_
      refine stg rfl rfl hg1 (y_geq rfl rfl) ?_
      refine st (y_pickF rfl hg1 (v := .bool _) rfl) ?_
      refine st (mvB rfl) ?_
      refine gspL 14 rfl (fun hg2 => ?_) (fun hg2 => ?_)
      ·
        have hg2n := hg2; try simp only [decide_eq_true_eq, decide_eq_false_iff_not, Bool.not_eq_true', Bool.not_eq_false', Bool.and_eq_true, Bool.or_eq_true, Bool.or_eq_false_iff, Bool.cond_true_right, Bool.cond_false_right, Bool.cond_true_left, Bool.cond_false_left, ne_eq, Decidable.not_not, bne_iff_ne, beq_iff_eq, beq_eq_false_iff_ne, Bool.not_true, Bool.not_false] at hg2n
        refine sts rfl rfl hg2 ?_
        refine sts rfl rfl hg2 ?_
        refine sts rfl rfl hg2 ?_
        refine sts rfl rfl hg2 ?_
        refine st (y_pickT rfl hg2 (v := .bool _) rfl) ?_
        refine st (asB rfl) ?_
        refine rg_end ?_
        exact n_then ⟨(), _, rfl, same_lk rfl (same_rfl), ⟨vb (by simp only [okT, isR, Bool.and_eq_true, decide_eq_true_eq, decide_eq_false_iff_not, Bool.not_eq_true', Bool.not_eq_eq_eq_not, Bool.not_true, Bool.false_eq_true, false_iff, true_iff, iff_true, iff_false]; omega), trivial⟩, ⟨hcut, trivial⟩⟩
      ·
        have hg2n := hg2; try simp only [decide_eq_true_eq, decide_eq_false_iff_not, Bool.not_eq_true', Bool.not_eq_false', Bool.and_eq_true, Bool.or_eq_true, Bool.or_eq_false_iff, Bool.cond_true_right, Bool.cond_false_right, Bool.cond_true_left, Bool.cond_false_left, ne_eq, Decidable.not_not, bne_iff_ne, beq_iff_eq, beq_eq_false_iff_ne, Bool.not_true, Bool.not_false] at hg2n
        refine stg rfl rfl hg2 (mvP rfl) ?_
        refine stg rfl rfl hg2 (mvI rfl) ?_
        refine scg rfl rfl hg2 cl44 (rlk_is_ok S _ _ _ _ _ hX hS) rfl ?_
        rintro v7 w3 ⟨rfl, ho4⟩
        have hz8 := ho4.size
        replace hX := hX.ext ho4
        replace hb := hb.ext ho4
        replace hh := hh.ext ho4
        replace hp := hp.ext ho4
        replace hr := hr.ext ho4
        replace hc_ := hc_.ext ho4
        replace hf := hf.ext ho4
        replace hE := hE.step ho4 (.inl (Nat.le_refl _))
        replace hcut := hcut.step ho4 (.inl (Nat.le_refl _))
        refine stg rfl rfl hg2 (y_not rfl) ?_
        refine st (y_pickF rfl hg2 (v := .bool _) rfl) ?_
        refine st (asB rfl) ?_
        refine rg_end ?_
        exact n_then ⟨(), _, rfl, same_lk rfl (same_rfl), ⟨vb (by simp only [okT, isR, Bool.and_eq_true, decide_eq_true_eq, decide_eq_false_iff_not, Bool.not_eq_true', Bool.not_eq_eq_eq_not, Bool.not_true, Bool.false_eq_true, false_iff, true_iff, iff_true, iff_false]; omega), trivial⟩, ⟨hcut, trivial⟩⟩
  ·
    rintro _ hav_ w9 ⟨ho10, _⟩
    have hz11 := ho10.size
    replace hX := hX.ext ho10
    replace hb := hb.ext ho10
    replace hh := hh.ext ho10
    replace hp := hp.ext ho10
    replace hr := hr.ext ho10
    replace hc_ := hc_.ext ho10
    replace hf := hf.ext ho10
    replace hE := hE.step ho10 (.inl (Nat.le_refl _))
    refine cnd rfl (fun hc0 => ?_) (fun hc0 => ?_)
    ·
      try simp only [decide_eq_true_eq, decide_eq_false_iff_not, Bool.not_eq_true', Bool.not_eq_false', Bool.and_eq_true, Bool.or_eq_true, Bool.or_eq_false_iff, Bool.cond_true_right, Bool.cond_false_right, Bool.cond_true_left, Bool.cond_false_left, ne_eq, Decidable.not_not, bne_iff_ne, beq_iff_eq, beq_eq_false_iff_ne, Bool.not_true, Bool.not_false] at hc0
      have he : freeE S t r = 4 := by unfold freeE; rw [if_neg hc0]
      refine wp_seq ?_
      refine rg ?_
      refine st (asI rfl) ?_
      refine rg_end ?_
      refine n_then ?_
      refine wp_ret ?_
      refine r_blk (r_then (ret1 (v := (.int .i64 _)) Try.results30 rfl ?_))
      exact ⟨vi he.symm, by rw [free_err (by rw [he]; decide)]; exact hX, hE⟩
    ·
      try simp only [decide_eq_true_eq, decide_eq_false_iff_not, Bool.not_eq_true', Bool.not_eq_false', Bool.and_eq_true, Bool.or_eq_true, Bool.or_eq_false_iff, Bool.cond_true_right, Bool.cond_false_right, Bool.cond_true_left, Bool.cond_false_left, ne_eq, Decidable.not_not, bne_iff_ne, beq_iff_eq, beq_eq_false_iff_ne, Bool.not_true, Bool.not_false] at hc0
      have hr0 := isR_iff.1 hc0.2
      have hacc := hh.acc
      have e_ho := el_map (l := S.rs) (g := Rs.ho) (i := r) hr0.1 hr0.2
      have e_re := el_map (l := S.rs) (g := Rs.re) (i := r) hr0.1 hr0.2
      refine wp_seq ?_
      refine rg ?_
      refine st (mvP rfl) ?_
      refine st (y_nil rfl) ?_
      refine st (y_fld fld67_0 rfl) ?_
      refine st (y_lb hb na23 rfl rfl) ?_
      refine st (mvI rfl) ?_
      refine st (y_ix hh.sl sl23 rfl (hlh.symm) rfl (by omega) (by omega)) ?_
      refine st (y_le hh.sl na3 rfl (by omega) (by omega) rfl) ?_
      refine st (mvI rfl) ?_
      refine st (y_neq rfl rfl) ?_
      refine st (asB rfl) ?_
      refine rg_end ?_
      refine n_then ?_
      refine cnd rfl (fun hc1 => ?_) (fun hc1 => ?_)
      ·
        try simp only [decide_eq_true_eq, decide_eq_false_iff_not, Bool.not_eq_true', Bool.not_eq_false', Bool.and_eq_true, Bool.or_eq_true, Bool.or_eq_false_iff, Bool.cond_true_right, Bool.cond_false_right, Bool.cond_true_left, Bool.cond_false_left, ne_eq, Decidable.not_not, bne_iff_ne, beq_iff_eq, beq_eq_false_iff_ne, Bool.not_true, Bool.not_false] at hc1
        have he : freeE S t r = 17 := by unfold freeE; rw [if_pos hc0, if_pos (by rw [← e_ho]; exact hc1)]
        refine wp_seq ?_
        refine rg ?_
        refine st (asI rfl) ?_
        refine rg_end ?_
        refine n_then ?_
        refine wp_ret ?_
        refine r_blk (r_then (ret1 (v := (.int .i64 _)) Try.results30 rfl ?_))
        exact ⟨vi he.symm, by rw [free_err (by rw [he]; decide)]; exact hX, hE⟩
      ·
        try simp only [decide_eq_true_eq, decide_eq_false_iff_not, Bool.not_eq_true', Bool.not_eq_false', Bool.and_eq_true, Bool.or_eq_true, Bool.or_eq_false_iff, Bool.cond_true_right, Bool.cond_false_right, Bool.cond_true_left, Bool.cond_false_left, ne_eq, Decidable.not_not, bne_iff_ne, beq_iff_eq, beq_eq_false_iff_ne, Bool.not_true, Bool.not_false] at hc1
        refine wp_seq ?_
        refine rg ?_
        refine st (mvP rfl) ?_
        refine st (y_nil rfl) ?_
        refine st (y_fld fld67_2 rfl) ?_
        refine st (y_lb hb na23 rfl rfl) ?_
        refine st (mvI rfl) ?_
        refine st (y_ix hr.sl sl23 rfl (hlr.symm) rfl (by omega) (by omega)) ?_
        refine st (y_le hr.sl na3 rfl (by omega) (by omega) rfl) ?_
        refine st (y_neq rfl rfl) ?_
        refine st (asB rfl) ?_
        refine rg_end ?_
        refine n_then ?_
        refine cnd rfl (fun hc2 => ?_) (fun hc2 => ?_)
        ·
          try simp only [decide_eq_true_eq, decide_eq_false_iff_not, Bool.not_eq_true', Bool.not_eq_false', Bool.and_eq_true, Bool.or_eq_true, Bool.or_eq_false_iff, Bool.cond_true_right, Bool.cond_false_right, Bool.cond_true_left, Bool.cond_false_left, ne_eq, Decidable.not_not, bne_iff_ne, beq_iff_eq, beq_eq_false_iff_ne, Bool.not_true, Bool.not_false] at hc2
          have he : freeE S t r = 16 := by unfold freeE; rw [if_pos hc0, if_neg (not_not_intro (e_ho.symm.trans hc1)), if_pos (by rw [← e_re]; exact hc2)]
          refine wp_seq ?_
          refine rg ?_
          refine st (asI rfl) ?_
          refine rg_end ?_
          refine n_then ?_
          refine wp_ret ?_
          refine r_blk (r_then (ret1 (v := (.int .i64 _)) Try.results30 rfl ?_))
          exact ⟨vi he.symm, by rw [free_err (by rw [he]; decide)]; exact hX, hE⟩
        ·
          try simp only [decide_eq_true_eq, decide_eq_false_iff_not, Bool.not_eq_true', Bool.not_eq_false', Bool.and_eq_true, Bool.or_eq_true, Bool.or_eq_false_iff, Bool.cond_true_right, Bool.cond_false_right, Bool.cond_true_left, Bool.cond_false_left, ne_eq, Decidable.not_not, bne_iff_ne, beq_iff_eq, beq_eq_false_iff_ne, Bool.not_true, Bool.not_false] at hc2
          have he : freeE S t r = 0 := by unfold freeE; rw [if_pos hc0, if_neg (not_not_intro (e_ho.symm.trans hc1)), if_neg (not_not_intro (e_re.symm.trans hc2))]
          refine wp_skip ?_
          refine n_blk ?_
          refine n_then ?_
          refine wp_seq ?_
          refine rg ?_
          refine st (mvP rfl) ?_
          refine st (y_nil rfl) ?_
          refine st (y_fld fld67_0 rfl) ?_
          refine st (y_lb hb na23 rfl rfl) ?_
          refine st (mvI rfl) ?_
          refine st (y_ix hh.sl sl23 rfl (hlh.symm) rfl (by omega) (by omega)) ?_
          refine sd0 (d_se (j := 0) (e' := (-1 : Int)) hh sz3 rfl rfl rfl (by omega) (by omega) (Nat.le_of_ble_eq_true rfl) rfl ?_)
          intro w12 hs14 ho13 hh'
          clear hh; have hh := hh'; clear hh'
          have hz15 := ho13.size
          replace hb := hb.out ho13 (by first | exact hsp.bh | exact hsp.bp | exact hsp.br | exact hsp.bc | exact sepO hsp.hp | exact sepO hsp.hr | exact sepO hsp.hc | exact sepO hsp.pr | exact sepO hsp.pc | exact sepO hsp.rc | exact sepO hsp.hp.symm | exact sepO hsp.hr.symm | exact sepO hsp.hc.symm | exact sepO hsp.pr.symm | exact sepO hsp.pc.symm | exact sepO hsp.rc.symm | exact hsp.sh | exact hsp.sp | exact hsp.sr | exact hsp.sc | omega | (simp only [blk_some, hi1_some] at *; omega))
          replace hp := hp.out ho13 (by first | exact hsp.bh | exact hsp.bp | exact hsp.br | exact hsp.bc | exact sepO hsp.hp | exact sepO hsp.hr | exact sepO hsp.hc | exact sepO hsp.pr | exact sepO hsp.pc | exact sepO hsp.rc | exact sepO hsp.hp.symm | exact sepO hsp.hr.symm | exact sepO hsp.hc.symm | exact sepO hsp.pr.symm | exact sepO hsp.pc.symm | exact sepO hsp.rc.symm | exact hsp.sh | exact hsp.sp | exact hsp.sr | exact hsp.sc | omega | (simp only [blk_some, hi1_some] at *; omega))
          replace hr := hr.out ho13 (by first | exact hsp.bh | exact hsp.bp | exact hsp.br | exact hsp.bc | exact sepO hsp.hp | exact sepO hsp.hr | exact sepO hsp.hc | exact sepO hsp.pr | exact sepO hsp.pc | exact sepO hsp.rc | exact sepO hsp.hp.symm | exact sepO hsp.hr.symm | exact sepO hsp.hc.symm | exact sepO hsp.pr.symm | exact sepO hsp.pc.symm | exact sepO hsp.rc.symm | exact hsp.sh | exact hsp.sp | exact hsp.sr | exact hsp.sc | omega | (simp only [blk_some, hi1_some] at *; omega))
          replace hc_ := hc_.out ho13 (by first | exact hsp.bh | exact hsp.bp | exact hsp.br | exact hsp.bc | exact sepO hsp.hp | exact sepO hsp.hr | exact sepO hsp.hc | exact sepO hsp.pr | exact sepO hsp.pc | exact sepO hsp.rc | exact sepO hsp.hp.symm | exact sepO hsp.hr.symm | exact sepO hsp.hc.symm | exact sepO hsp.pr.symm | exact sepO hsp.pc.symm | exact sepO hsp.rc.symm | exact hsp.sh | exact hsp.sp | exact hsp.sr | exact hsp.sc | omega | (simp only [blk_some, hi1_some] at *; omega))
          replace hf := hf.out ho13 (by first | exact hsp.bh | exact hsp.bp | exact hsp.br | exact hsp.bc | exact sepO hsp.hp | exact sepO hsp.hr | exact sepO hsp.hc | exact sepO hsp.pr | exact sepO hsp.pc | exact sepO hsp.rc | exact sepO hsp.hp.symm | exact sepO hsp.hr.symm | exact sepO hsp.hc.symm | exact sepO hsp.pr.symm | exact sepO hsp.pc.symm | exact sepO hsp.rc.symm | exact hsp.sh | exact hsp.sp | exact hsp.sr | exact hsp.sc | omega | (simp only [blk_some, hi1_some] at *; omega))
          replace hE := hE.step ho13 (by first | exact hsp.bh | exact hsp.bp | exact hsp.br | exact hsp.bc | exact sepO hsp.hp | exact sepO hsp.hr | exact sepO hsp.hc | exact sepO hsp.pr | exact sepO hsp.pc | exact sepO hsp.rc | exact sepO hsp.hp.symm | exact sepO hsp.hr.symm | exact sepO hsp.hc.symm | exact sepO hsp.pr.symm | exact sepO hsp.pc.symm | exact sepO hsp.rc.symm | exact hsp.sh | exact hsp.sp | exact hsp.sr | exact hsp.sc | omega | (simp only [blk_some, hi1_some] at *; omega))
          refine rg_end ?_
          refine n_then ?_
          refine wp_seq ?_
          refine rg ?_
          refine st (asI rfl) ?_
          refine rg_end ?_
          refine n_then ?_
          refine wp_ret ?_
          refine ret1 (v := (.int .i64 _)) Try.results30 rfl ?_
          exact ⟨vi he.symm, by rw [free_ok he]; exact rlk_of hb hh hp hr hc_ hf hl2 hh2 hlb hbh (by omega) hsp (by simp)  map_set (map_set_id hr0.1 hr0.2 rfl) (map_set_id hr0.1 hr0.2 rfl) (map_set_id hr0.1 hr0.2 rfl) rfl, hE⟩

set_option maxRecDepth 100000 in
theorem rlk_Holder_ok (S : IS) (lo hi b : Nat) (r : Int) (w : World) (hX : Rlk lo hi b w S) (hS : IsOk S)  : Cal Try.prog 40 [.pointer (some ⟨b, 0, none⟩), .int .i64 r] w (fun v w' => v = .int .i64 (holder S r) ∧ Ext w w') := by
  obtain ⟨ah, ch, ap, cp, ar, cr, ac, cc, au, cu, l2, h2, hb, hh, hp, hr, hc_, hf, hl2, hh2, hlb, hbh, hhi, hsp⟩ := hX.ex
  have hbl := hb.lt
  have hpos : 0 < w.heap.size := by omega
  have hx1 := hh.blt hpos
  have hx2 := hp.blt hpos
  have hx3 := hr.blt hpos
  have hx4 := hc_.blt hpos
  have hn1 := hS.n1
  have hn2 := hS.n2
  have hlh : (S.rs.map Rs.ho).length = S.rs.length := by simp
  have hlp : (S.rs.map Rs.po).length = S.rs.length := by simp
  have hlr : (S.rs.map Rs.re).length = S.rs.length := by simp
  have hlc : (S.rs.map Rs.cl).length = S.rs.length := by simp
  have hE : Out 0 0 w w := Out.refl _ _ w
  refine enter Try.func40 rfl Try.ntmps40 rfl ?_
  refine wp_seq ?_
  refine rg ?_
  refine st (asI rfl) ?_
  refine rg_end ?_
  refine n_then ?_
  refine wp_seq ?_
  refine wp_seq ?_
  refine rg ?_
  refine st (mvP rfl) ?_
  refine st (mvI rfl) ?_
  refine sc cl44 (rlk_is_ok S _ _ _ _ _ hX hS) rfl ?_
  rintro v5 w1 ⟨rfl, ho2⟩
  have hz6 := ho2.size
  replace hX := hX.ext ho2
  replace hb := hb.ext ho2
  replace hh := hh.ext ho2
  replace hp := hp.ext ho2
  replace hr := hr.ext ho2
  replace hc_ := hc_.ext ho2
  replace hf := hf.ext ho2
  replace hE := hE.step ho2 (.inl (Nat.le_refl _))
  refine st (y_not rfl) ?_
  refine rg_end ?_
  refine n_then ?_
  refine cnd rfl (fun hc0 => ?_) (fun hc0 => ?_)
  ·
    try simp only [decide_eq_true_eq, decide_eq_false_iff_not, Bool.not_eq_true', Bool.not_eq_false', Bool.and_eq_true, Bool.or_eq_true, Bool.or_eq_false_iff, Bool.cond_true_right, Bool.cond_false_right, Bool.cond_true_left, Bool.cond_false_left, ne_eq, Decidable.not_not, bne_iff_ne, beq_iff_eq, beq_eq_false_iff_ne, Bool.not_true, Bool.not_false] at hc0
    refine wp_seq ?_
    refine rg ?_
    refine st (asI rfl) ?_
    refine rg_end ?_
    refine n_then ?_
    refine wp_ret ?_
    refine r_then (ret1 (v := (.int .i64 _)) Try.results40 rfl ?_)
    exact ⟨vi (by unfold holder; rw [if_neg (by rw [hc0]; decide)]), hE⟩
  ·
    try simp only [decide_eq_true_eq, decide_eq_false_iff_not, Bool.not_eq_true', Bool.not_eq_false', Bool.and_eq_true, Bool.or_eq_true, Bool.or_eq_false_iff, Bool.cond_true_right, Bool.cond_false_right, Bool.cond_true_left, Bool.cond_false_left, ne_eq, Decidable.not_not, bne_iff_ne, beq_iff_eq, beq_eq_false_iff_ne, Bool.not_true, Bool.not_false] at hc0
    have hr0 := isR_iff.1 hc0
    have e_ho := el_map (l := S.rs) (g := Rs.ho) (i := r) hr0.1 hr0.2
    refine wp_skip ?_
    refine n_then ?_
    refine wp_seq ?_
    refine rg ?_
    refine st (mvP rfl) ?_
    refine st (y_nil rfl) ?_
    refine st (y_fld fld67_0 rfl) ?_
    refine st (y_lb hb na23 rfl rfl) ?_
    refine st (mvI rfl) ?_
    refine st (y_ix hh.sl sl23 rfl (hlh.symm) rfl (by omega) (by omega)) ?_
    refine st (y_le hh.sl na3 rfl (by omega) (by omega) rfl) ?_
    refine st (asI rfl) ?_
    refine rg_end ?_
    refine n_then ?_
    refine wp_ret ?_
    refine ret1 (v := (.int .i64 _)) Try.results40 rfl ?_
    exact ⟨vi (by unfold holder; rw [if_pos hc0]; exact e_ho), hE⟩

set_option maxRecDepth 100000 in
theorem rlk_Position_ok (S : IS) (lo hi b : Nat) (r : Int) (w : World) (hX : Rlk lo hi b w S) (hS : IsOk S)  : Cal Try.prog 41 [.pointer (some ⟨b, 0, none⟩), .int .i64 r] w (fun v w' => v = .int .i64 (position S r) ∧ Ext w w') := by
  obtain ⟨ah, ch, ap, cp, ar, cr, ac, cc, au, cu, l2, h2, hb, hh, hp, hr, hc_, hf, hl2, hh2, hlb, hbh, hhi, hsp⟩ := hX.ex
  have hbl := hb.lt
  have hpos : 0 < w.heap.size := by omega
  have hx1 := hh.blt hpos
  have hx2 := hp.blt hpos
  have hx3 := hr.blt hpos
  have hx4 := hc_.blt hpos
  have hn1 := hS.n1
  have hn2 := hS.n2
  have hlh : (S.rs.map Rs.ho).length = S.rs.length := by simp
  have hlp : (S.rs.map Rs.po).length = S.rs.length := by simp
  have hlr : (S.rs.map Rs.re).length = S.rs.length := by simp
  have hlc : (S.rs.map Rs.cl).length = S.rs.length := by simp
  have hE : Out 0 0 w w := Out.refl _ _ w
  refine enter Try.func41 rfl Try.ntmps41 rfl ?_
  refine wp_seq ?_
  refine rg ?_
  refine st (asI rfl) ?_
  refine rg_end ?_
  refine n_then ?_
  refine wp_seq ?_
  refine wp_seq ?_
  refine rg ?_
  refine st (mvP rfl) ?_
  refine st (mvI rfl) ?_
  refine sc cl44 (rlk_is_ok S _ _ _ _ _ hX hS) rfl ?_
  rintro v5 w1 ⟨rfl, ho2⟩
  have hz6 := ho2.size
  replace hX := hX.ext ho2
  replace hb := hb.ext ho2
  replace hh := hh.ext ho2
  replace hp := hp.ext ho2
  replace hr := hr.ext ho2
  replace hc_ := hc_.ext ho2
  replace hf := hf.ext ho2
  replace hE := hE.step ho2 (.inl (Nat.le_refl _))
  refine st (y_not rfl) ?_
  refine rg_end ?_
  refine n_then ?_
  refine cnd rfl (fun hc0 => ?_) (fun hc0 => ?_)
  ·
    try simp only [decide_eq_true_eq, decide_eq_false_iff_not, Bool.not_eq_true', Bool.not_eq_false', Bool.and_eq_true, Bool.or_eq_true, Bool.or_eq_false_iff, Bool.cond_true_right, Bool.cond_false_right, Bool.cond_true_left, Bool.cond_false_left, ne_eq, Decidable.not_not, bne_iff_ne, beq_iff_eq, beq_eq_false_iff_ne, Bool.not_true, Bool.not_false] at hc0
    refine wp_seq ?_
    refine rg ?_
    refine st (asI rfl) ?_
    refine rg_end ?_
    refine n_then ?_
    refine wp_ret ?_
    refine r_then (ret1 (v := (.int .i64 _)) Try.results41 rfl ?_)
    exact ⟨vi (by unfold position; rw [if_neg (by rw [hc0]; decide)]), hE⟩
  ·
    try simp only [decide_eq_true_eq, decide_eq_false_iff_not, Bool.not_eq_true', Bool.not_eq_false', Bool.and_eq_true, Bool.or_eq_true, Bool.or_eq_false_iff, Bool.cond_true_right, Bool.cond_false_right, Bool.cond_true_left, Bool.cond_false_left, ne_eq, Decidable.not_not, bne_iff_ne, beq_iff_eq, beq_eq_false_iff_ne, Bool.not_true, Bool.not_false] at hc0
    have hr0 := isR_iff.1 hc0
    have e_po := el_map (l := S.rs) (g := Rs.po) (i := r) hr0.1 hr0.2
    refine wp_skip ?_
    refine n_then ?_
    refine wp_seq ?_
    refine rg ?_
    refine st (mvP rfl) ?_
    refine st (y_nil rfl) ?_
    refine st (y_fld fld67_1 rfl) ?_
    refine st (y_lb hb na23 rfl rfl) ?_
    refine st (mvI rfl) ?_
    refine st (y_ix hp.sl sl23 rfl (hlp.symm) rfl (by omega) (by omega)) ?_
    refine st (y_le hp.sl na3 rfl (by omega) (by omega) rfl) ?_
    refine st (asI rfl) ?_
    refine rg_end ?_
    refine n_then ?_
    refine wp_ret ?_
    refine ret1 (v := (.int .i64 _)) Try.results41 rfl ?_
    exact ⟨vi (by unfold position; rw [if_pos hc0]; exact e_po), hE⟩

set_option maxRecDepth 100000 in
theorem rlk_Held_ok (S : IS) (lo hi b : Nat) (t : Int) (w : World) (hX : Rlk lo hi b w S) (hS : IsOk S)  : Cal Try.prog 43 [.pointer (some ⟨b, 0, none⟩), .int .i64 t] w (fun v w' => ∃ am cm, v = .slice am (heldBy S t S.rs.length).length cm ∧ Ints w.heap.size w'.heap.size w' am (heldBy S t S.rs.length) ∧ Ext w w') := by
  obtain ⟨ah, ch, ap, cp, ar, cr, ac, cc, au, cu, l2, h2, hb, hh, hp, hr, hc_, hf, hl2, hh2, hlb, hbh, hhi, hsp⟩ := hX.ex
  have hbl := hb.lt
  have hpos : 0 < w.heap.size := by omega
  have hx1 := hh.blt hpos
  have hx2 := hp.blt hpos
  have hx3 := hr.blt hpos
  have hx4 := hc_.blt hpos
  have hn1 := hS.n1
  have hn2 := hS.n2
  have hlh : (S.rs.map Rs.ho).length = S.rs.length := by simp
  have hlp : (S.rs.map Rs.po).length = S.rs.length := by simp
  have hlr : (S.rs.map Rs.re).length = S.rs.length := by simp
  have hlc : (S.rs.map Rs.cl).length = S.rs.length := by simp
  have hE : Out 0 0 w w := Out.refl _ _ w
  refine enter Try.func43 rfl Try.ntmps43 rfl ?_
  refine wp_seq ?_
  refine rg ?_
  refine st (asS rfl) ?_
  refine rg_end ?_
  refine n_then ?_
  refine wp_seq ?_
  refine rg ?_
  refine st (asS rfl) ?_
  refine rg_end ?_
  refine n_then ?_
  refine wp_seq ?_
  refine wp_seq ?_
  refine rg ?_
  refine st (mvP rfl) ?_
  refine st (y_nil rfl) ?_
  refine st (y_fld fld67_0 rfl) ?_
  refine st (y_lb hb na23 rfl rfl) ?_
  refine st (y_len Try.underlying23 rfl) ?_
  refine st (mvI rfl) ?_
  refine rg_end ?_
  refine n_then ?_
  refine wp_block ?_
  obtain ⟨z2, hz2⟩ : ∃ z, z = w.heap.size := ⟨_, rfl⟩
  refine lp (γ := Nat × List Int × Option Addr × Nat) [5, 6, 12, 13, 14, 15, 16, 17, 18, 19, 20, 21, 22, 23, 24, 25, 26, 27, 28, 29, 30, 31, 32] (fun ⟨k, M, am, cm⟩ => [(12, .int .i64 (k : Int)), (5, .slice am M.length cm)]) (fun ⟨k, M, am, cm⟩ w_ => Ext w w_ ∧ (k : Int) ≤ S.rs.length ∧ M = heldBy S t k ∧ Ow 3 encI 1 z2 w_.heap.size w_ am cm M) (fun ⟨k, M, am, cm⟩ => S.rs.length - k) (0, [], none, 0) ⟨rfl, rfl, trivial⟩ ⟨Out.refl _ _ _, by simp, by simp [heldBy], Ow.nil (fun _ => rfl)⟩ ?_
  rintro ⟨k, M, am, cm⟩ hav_ w1 ⟨ho2, hk, hM, hmv⟩
  have hlp0 := ho2
  have hz3 := ho2.size
  replace hX := hX.ext ho2
  replace hb := hb.ext ho2
  replace hh := hh.ext ho2
  replace hp := hp.ext ho2
  replace hr := hr.ext ho2
  replace hc_ := hc_.ext ho2
  replace hf := hf.ext ho2
  replace hE := hE.step ho2 (.inl (Nat.le_refl _))
  refine wp_seq ?_
  refine rg ?_
  refine st (y_lss rfl rfl) ?_
  refine rg_end ?_
  refine n_then ?_
  refine wp_seq ?_
  refine cnd rfl (fun hc0 => ?_) (fun hc0 => ?_)
  ·
    try simp only [decide_eq_true_eq, decide_eq_false_iff_not, Bool.not_eq_true', Bool.not_eq_false', Bool.and_eq_true, Bool.or_eq_true, Bool.or_eq_false_iff, Bool.cond_true_right, Bool.cond_false_right, Bool.cond_true_left, Bool.cond_false_left, ne_eq, Decidable.not_not, bne_iff_ne, beq_iff_eq, beq_eq_false_iff_ne, Bool.not_true, Bool.not_false] at hc0
    have hml := held_len (S := S) (t := t) (k := k)
    rw [← hM] at hml
    have hho := hS.ho _ (el_mem (l := S.rs) (i := (k : Int)) (by omega) hc0)
    have e_ho := el_map (l := S.rs) (g := Rs.ho) (i := (k : Int)) (by omega) hc0
    refine wp_skip ?_
    refine n_then ?_
    refine wp_seq ?_
    refine wp_block ?_
    refine wp_seq ?_
    refine rg ?_
    refine st (mvI rfl) ?_
    refine st (asI rfl) ?_
    refine rg_end ?_
    refine n_then ?_
    refine cut (γ := Unit) [15, 16, 17, 18, 19, 20, 21, 22, 23, 24, 25, 26, 27] (fun _ => [(27, .bool (decide (0 ≤ t ∧ t < 10 ∧ (el S.rs (k : Int)).ho = t)))]) (fun _ w_ => Ext w1 w_ ∧ True) ?_ ?_
    ·
      have hcut := Out.refl 0 0 w1
      refine rg ?_
      refine st (mvP rfl) ?_
      refine st (y_nil rfl) ?_
      refine st (y_fld fld67_0 rfl) ?_
      refine st (y_lb hb na23 rfl rfl) ?_
      refine st (mvI rfl) ?_
      refine st (y_ix hh.sl sl23 rfl (hlh.symm) rfl (by omega) (by omega)) ?_
      refine st (y_le hh.sl na3 rfl (by omega) (by omega) rfl) ?_
      refine st (mvI rfl) ?_
      refine st (y_eql rfl rfl) ?_
      refine st (mvB rfl) ?_
      refine gspL 24 rfl (fun hg4 => ?_) (fun hg4 => ?_)
      ·
        have hg4n := hg4; try simp only [decide_eq_true_eq, decide_eq_false_iff_not, Bool.not_eq_true', Bool.not_eq_false', Bool.and_eq_true, Bool.or_eq_true, Bool.or_eq_false_iff, Bool.cond_true_right, Bool.cond_false_right, Bool.cond_true_left, Bool.cond_false_left, ne_eq, Decidable.not_not, bne_iff_ne, beq_iff_eq, beq_eq_false_iff_ne, Bool.not_true, Bool.not_false] at hg4n
        refine stg rfl rfl hg4 (mvI rfl) ?_
        refine stg rfl rfl hg4 (y_geq rfl rfl) ?_
        refine st (y_pickT rfl hg4 (v := .bool _) rfl) ?_
        refine rg_end ?_
        exact n_then ⟨(), _, rfl, same_lk rfl (same_rfl), ⟨vb (by simp only [decide_eq_true_eq, decide_eq_false_iff_not, Bool.not_eq_true', Bool.not_eq_eq_eq_not, Bool.not_true, Bool.false_eq_true, false_iff, true_iff, iff_true, iff_false]; omega), trivial⟩, ⟨hcut, trivial⟩⟩
      ·
        have hg4n := hg4; try simp only [decide_eq_true_eq, decide_eq_false_iff_not, Bool.not_eq_true', Bool.not_eq_false', Bool.and_eq_true, Bool.or_eq_true, Bool.or_eq_false_iff, Bool.cond_true_right, Bool.cond_false_right, Bool.cond_true_left, Bool.cond_false_left, ne_eq, Decidable.not_not, bne_iff_ne, beq_iff_eq, beq_eq_false_iff_ne, Bool.not_true, Bool.not_false] at hg4n
        refine sts rfl rfl hg4 ?_
        refine sts rfl rfl hg4 ?_
        refine st (y_pickF rfl hg4 (v := .bool _) rfl) ?_
        refine rg_end ?_
        exact n_then ⟨(), _, rfl, same_lk rfl (same_rfl), ⟨vb (by simp only [decide_eq_true_eq, decide_eq_false_iff_not, Bool.not_eq_true', Bool.not_eq_eq_eq_not, Bool.not_true, Bool.false_eq_true, false_iff, true_iff, iff_true, iff_false]; omega), trivial⟩, ⟨hcut, trivial⟩⟩
    ·
      rintro _ hav_ w5 ⟨ho6, _⟩
      have hz7 := ho6.size
      replace hX := hX.ext ho6
      replace hb := hb.ext ho6
      replace hh := hh.ext ho6
      replace hp := hp.ext ho6
      replace hr := hr.ext ho6
      replace hc_ := hc_.ext ho6
      replace hf := hf.ext ho6
      replace hE := hE.step ho6 (.inl (Nat.le_refl _))
      replace hmv := hmv.ext ho6
      replace hlp0 := hlp0.step ho6 (.inl (Nat.le_refl _))
      refine cnd rfl (fun hc1 => ?_) (fun hc1 => ?_)
      ·
        try simp only [decide_eq_true_eq, decide_eq_false_iff_not, Bool.not_eq_true', Bool.not_eq_false', Bool.and_eq_true, Bool.or_eq_true, Bool.or_eq_false_iff, Bool.cond_true_right, Bool.cond_false_right, Bool.cond_true_left, Bool.cond_false_left, ne_eq, Decidable.not_not, bne_iff_ne, beq_iff_eq, beq_eq_false_iff_ne, Bool.not_true, Bool.not_false] at hc1
        have hM1 : M ++ [(k : Int)] = heldBy S t (k + 1) := by rw [held_step, if_pos hc1, hM]
        refine rg ?_
        refine st (mvS rfl) ?_
        refine st (mvI rfl) ?_
        refine sd (d_bs (bsl23_1 _ _) rfl ?_)
        intro bl11 w8 hbbl11 hs10 ho9 hbl11
        have hz12 := ho9.size
        replace hX := hX.ext ho9
        replace hb := hb.ext ho9
        replace hh := hh.ext ho9
        replace hp := hp.ext ho9
        replace hr := hr.ext ho9
        replace hc_ := hc_.ext ho9
        replace hf := hf.ext ho9
        replace hE := hE.step ho9 (.inl (Nat.le_refl _))
        replace hmv := hmv.ext ho9
        replace hlp0 := hlp0.step ho9 (.inl (Nat.le_refl _))
        have hrhmv := hmv.rng
        refine sd (d_app (xs := [(k : Int)]) hmv sl23 infoz3 (by decide) rfl rfl rfl rfl (hbl11) (fun _ => rfl) (by simp; unfold maxLen; omega) (by simp; omega) (by omega) (by omega) ?_)
        intro am1 cm1 w13 ho14 hmv'
        have hs15 := ho14.size
        clear hmv; have hmv := hmv'; clear hmv'
        have hz18 := ho14.size
        replace hX := hX.out ho14 (by first | exact hsp.bh | exact hsp.bp | exact hsp.br | exact hsp.bc | exact sepO hsp.hp | exact sepO hsp.hr | exact sepO hsp.hc | exact sepO hsp.pr | exact sepO hsp.pc | exact sepO hsp.rc | exact sepO hsp.hp.symm | exact sepO hsp.hr.symm | exact sepO hsp.hc.symm | exact sepO hsp.pr.symm | exact sepO hsp.pc.symm | exact sepO hsp.rc.symm | exact hsp.sh | exact hsp.sp | exact hsp.sr | exact hsp.sc | omega | (simp only [blk_some, hi1_some] at *; omega))
        replace hb := hb.out ho14 (by first | exact hsp.bh | exact hsp.bp | exact hsp.br | exact hsp.bc | exact sepO hsp.hp | exact sepO hsp.hr | exact sepO hsp.hc | exact sepO hsp.pr | exact sepO hsp.pc | exact sepO hsp.rc | exact sepO hsp.hp.symm | exact sepO hsp.hr.symm | exact sepO hsp.hc.symm | exact sepO hsp.pr.symm | exact sepO hsp.pc.symm | exact sepO hsp.rc.symm | exact hsp.sh | exact hsp.sp | exact hsp.sr | exact hsp.sc | omega | (simp only [blk_some, hi1_some] at *; omega))
        replace hh := hh.out ho14 (by first | exact hsp.bh | exact hsp.bp | exact hsp.br | exact hsp.bc | exact sepO hsp.hp | exact sepO hsp.hr | exact sepO hsp.hc | exact sepO hsp.pr | exact sepO hsp.pc | exact sepO hsp.rc | exact sepO hsp.hp.symm | exact sepO hsp.hr.symm | exact sepO hsp.hc.symm | exact sepO hsp.pr.symm | exact sepO hsp.pc.symm | exact sepO hsp.rc.symm | exact hsp.sh | exact hsp.sp | exact hsp.sr | exact hsp.sc | omega | (simp only [blk_some, hi1_some] at *; omega))
        replace hp := hp.out ho14 (by first | exact hsp.bh | exact hsp.bp | exact hsp.br | exact hsp.bc | exact sepO hsp.hp | exact sepO hsp.hr | exact sepO hsp.hc | exact sepO hsp.pr | exact sepO hsp.pc | exact sepO hsp.rc | exact sepO hsp.hp.symm | exact sepO hsp.hr.symm | exact sepO hsp.hc.symm | exact sepO hsp.pr.symm | exact sepO hsp.pc.symm | exact sepO hsp.rc.symm | exact hsp.sh | exact hsp.sp | exact hsp.sr | exact hsp.sc | omega | (simp only [blk_some, hi1_some] at *; omega))
        replace hr := hr.out ho14 (by first | exact hsp.bh | exact hsp.bp | exact hsp.br | exact hsp.bc | exact sepO hsp.hp | exact sepO hsp.hr | exact sepO hsp.hc | exact sepO hsp.pr | exact sepO hsp.pc | exact sepO hsp.rc | exact sepO hsp.hp.symm | exact sepO hsp.hr.symm | exact sepO hsp.hc.symm | exact sepO hsp.pr.symm | exact sepO hsp.pc.symm | exact sepO hsp.rc.symm | exact hsp.sh | exact hsp.sp | exact hsp.sr | exact hsp.sc | omega | (simp only [blk_some, hi1_some] at *; omega))
        replace hc_ := hc_.out ho14 (by first | exact hsp.bh | exact hsp.bp | exact hsp.br | exact hsp.bc | exact sepO hsp.hp | exact sepO hsp.hr | exact sepO hsp.hc | exact sepO hsp.pr | exact sepO hsp.pc | exact sepO hsp.rc | exact sepO hsp.hp.symm | exact sepO hsp.hr.symm | exact sepO hsp.hc.symm | exact sepO hsp.pr.symm | exact sepO hsp.pc.symm | exact sepO hsp.rc.symm | exact hsp.sh | exact hsp.sp | exact hsp.sr | exact hsp.sc | omega | (simp only [blk_some, hi1_some] at *; omega))
        replace hf := hf.out ho14 (by first | exact hsp.bh | exact hsp.bp | exact hsp.br | exact hsp.bc | exact sepO hsp.hp | exact sepO hsp.hr | exact sepO hsp.hc | exact sepO hsp.pr | exact sepO hsp.pc | exact sepO hsp.rc | exact sepO hsp.hp.symm | exact sepO hsp.hr.symm | exact sepO hsp.hc.symm | exact sepO hsp.pr.symm | exact sepO hsp.pc.symm | exact sepO hsp.rc.symm | exact hsp.sh | exact hsp.sp | exact hsp.sr | exact hsp.sc | omega | (simp only [blk_some, hi1_some] at *; omega))
        replace hE := hE.step ho14 (by first | exact hsp.bh | exact hsp.bp | exact hsp.br | exact hsp.bc | exact sepO hsp.hp | exact sepO hsp.hr | exact sepO hsp.hc | exact sepO hsp.pr | exact sepO hsp.pc | exact sepO hsp.rc | exact sepO hsp.hp.symm | exact sepO hsp.hr.symm | exact sepO hsp.hc.symm | exact sepO hsp.pr.symm | exact sepO hsp.pc.symm | exact sepO hsp.rc.symm | exact hsp.sh | exact hsp.sp | exact hsp.sr | exact hsp.sc | omega | (simp only [blk_some, hi1_some] at *; omega))
        replace hlp0 := hlp0.step ho14 (by first | exact hsp.bh | exact hsp.bp | exact hsp.br | exact hsp.bc | exact sepO hsp.hp | exact sepO hsp.hr | exact sepO hsp.hc | exact sepO hsp.pr | exact sepO hsp.pc | exact sepO hsp.rc | exact sepO hsp.hp.symm | exact sepO hsp.hr.symm | exact sepO hsp.hc.symm | exact sepO hsp.pr.symm | exact sepO hsp.pc.symm | exact sepO hsp.rc.symm | exact hsp.sh | exact hsp.sp | exact hsp.sr | exact hsp.sc | omega | (simp only [blk_some, hi1_some] at *; omega))
        refine st (asS rfl) ?_
        refine rg_end ?_
        refine n_blk ?_
        refine n_then ?_
        refine rg ?_
        refine st (y_add rfl rfl (by omega)) ?_
        refine st (mvI rfl) ?_
        refine rg_end ?_
        exact n_then ⟨(k + 1, _, _, _), _, rfl, same_lk rfl (same_hav rfl (same_lk rfl (same_h0))), ⟨rfl, rfl, trivial⟩, ⟨hlp0, by omega, hM1, hmv.wide (by omega)⟩, by first | omega | (dsimp only; omega)⟩
      ·
        try simp only [decide_eq_true_eq, decide_eq_false_iff_not, Bool.not_eq_true', Bool.not_eq_false', Bool.and_eq_true, Bool.or_eq_true, Bool.or_eq_false_iff, Bool.cond_true_right, Bool.cond_false_right, Bool.cond_true_left, Bool.cond_false_left, ne_eq, Decidable.not_not, bne_iff_ne, beq_iff_eq, beq_eq_false_iff_ne, Bool.not_true, Bool.not_false] at hc1
        have hM1 : M = heldBy S t (k + 1) := by rw [held_step, if_neg hc1, List.append_nil, hM]
        refine wp_skip ?_
        refine n_blk ?_
        refine n_then ?_
        refine rg ?_
        refine st (y_add rfl rfl (by omega)) ?_
        refine st (mvI rfl) ?_
        refine rg_end ?_
        exact n_then ⟨(k + 1, _, _, _), _, rfl, same_lk rfl (same_hav rfl (same_lk rfl (same_h0))), ⟨rfl, rfl, trivial⟩, ⟨hlp0, by omega, hM1, hmv.wide (by omega)⟩, by first | omega | (dsimp only; omega)⟩
  ·
    try simp only [decide_eq_true_eq, decide_eq_false_iff_not, Bool.not_eq_true', Bool.not_eq_false', Bool.and_eq_true, Bool.or_eq_true, Bool.or_eq_false_iff, Bool.cond_true_right, Bool.cond_false_right, Bool.cond_true_left, Bool.cond_false_left, ne_eq, Decidable.not_not, bne_iff_ne, beq_iff_eq, beq_eq_false_iff_ne, Bool.not_true, Bool.not_false] at hc0
    refine wp_exit ?_
    refine e_then (e_then (e_blk (?_)))
    refine n_then ?_
    refine wp_seq ?_
    refine rg ?_
    refine st (mvS rfl) ?_
    refine st (asS rfl) ?_
    refine rg_end ?_
    refine n_then ?_
    refine wp_ret ?_
    refine ret1 (v := (.slice _ _ _)) Try.results43 rfl ?_
    have hk0 : k = S.rs.length := by omega
    subst hk0
    exact ⟨am, cm, by rw [hM], by rw [← hM]; exact Sl.wide hmv.sl (by omega) (Nat.le_refl _), hE⟩
end Go.Proofs.Ytciljdhihnnfiaa
