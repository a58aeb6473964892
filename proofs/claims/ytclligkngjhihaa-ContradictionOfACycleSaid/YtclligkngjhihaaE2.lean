/-
  Walks of the functions, printed by a program out of the code and the loops' relations.
-/
import Derived.Test.YtclligkngjhihaaWkH
import Derived.Test.YtclligkngjhihaaProg
import Derived.KernelRfl
import Derived.Test.YtclligkngjhihaaE1
namespace Go.Proofs.Ytclligkngjhihaa
open Go.Wk Go.RowKit
set_option linter.unusedVariables false
set_option linter.unusedSimpArgs false
theorem bld116_0_4_5 (a0_0 : Int) (d0_1 : Option Addr) (l0_1 : Nat) (c0_1 : Nat) (d0_2 : Option Addr) (l0_2 : Nat) (c0_2 : Nat) (p4 : Bool) (a5 : Int) (w : World) : (Instr.build 116 [(0, (.agg #[(.int .i64 a0_0), (.slice d0_1 l0_1 c0_1), (.slice d0_2 l0_2 c0_2)])), (4, (.bool p4)), (5, (.int .i64 a5))].toArray).run Try.prog w = .ok (.agg [(.int .i64 a0_0), (.slice d0_1 l0_1 c0_1), (.slice d0_2 l0_2 c0_2), .slice none 0 0, .slice none 0 0, .slice none 0 0, (.bool p4), (.int .i64 a5), .int .i64 0, .bool false, .slice none 0 0, .int .i64 0, .bool false].toArray) w := by kernel_rfl
theorem cl82 : Callable Try.prog 82 := ⟨Try.call82⟩
theorem fld116_1 : FieldOf Try.prog 116 1 3 := fun b o w => by simp [Instr.fieldAt, fieldPlace, Instr.sureAddr, Addr.add_lit]
theorem fld116_2 : FieldOf Try.prog 116 2 4 := fun b o w => by simp [Instr.fieldAt, fieldPlace, Instr.sureAddr, Addr.add_lit]
theorem fld116_3 : FieldOf Try.prog 116 3 5 := fun b o w => by simp [Instr.fieldAt, fieldPlace, Instr.sureAddr, Addr.add_lit]
set_option maxRecDepth 100000 in
theorem info22 : ∃ i, Try.prog.info? 22 = some i ∧ i.zero = some (.slice none 0 0) ∧ i.size = 1 ∧ i.bytes = 24 := ⟨Try.t22, Try.type22, rfl, rfl, rfl⟩
theorem na44 : NotAgg Try.prog 44 := Try.isAgg44
theorem sl44 : SliceOf Try.prog 44 22 1 := ⟨Try.underlying44, Try.sizeOf22⟩
theorem sz22 : SzOf Try.prog 22 1 := Try.sizeOf22
theorem sz44 : SzOf Try.prog 44 1 := Try.sizeOf44

structure Rw where
  a : Option Addr
  c : Nat
  l : List Int
  deriving Inhabited
def encRw (r : Rw) : List Value := [.slice r.a r.l.length r.c]
structure RowsIn (lo hi : Nat) (w : World) (rows : List Rw) : Prop where
  row : ∀ e : Int, 0 ≤ e → e < rows.length → Ow 3 encI 1 lo hi w (el rows e).a (el rows e).c (el rows e).l
  sep : ∀ e e' : Int, 0 ≤ e → e < rows.length → 0 ≤ e' → e' < rows.length → e ≠ e' → hi1 (el rows e).a ≤ blk (el rows e').a ∨ hi1 (el rows e').a ≤ blk (el rows e).a
theorem RowsIn.out {lo hi : Nat} {w w' : World} {rows : List Rw} {a c : Nat} (h : RowsIn lo hi w rows) (ho : Out a c w w') (hs : hi ≤ a ∨ c ≤ lo ∨ c ≤ a) : RowsIn lo hi w' rows :=
  ⟨fun e h0 h1 => by have hr := h.row e h0 h1; have hg := hr.rng; exact hr.out ho (by omega), h.sep⟩
theorem RowsIn.ext {lo hi : Nat} {w w' : World} {rows : List Rw} (h : RowsIn lo hi w rows) (ho : Ext w w') : RowsIn lo hi w' rows := h.out ho (.inr (.inr (Nat.le_refl _)))
theorem RowsIn.wide {lo hi hi' : Nat} {w : World} {rows : List Rw} (h : RowsIn lo hi w rows) (h2 : hi ≤ hi') : RowsIn lo hi' w rows := ⟨fun e h0 h1 => (h.row e h0 h1).wide h2, h.sep⟩
theorem RowsIn.nil {lo hi n : Nat} {w : World} : RowsIn lo hi w (List.replicate n ⟨none, 0, []⟩) := by
  have e : ∀ i : Int, 0 ≤ i → i < ((List.replicate n (⟨none, 0, []⟩ : Rw)).length : Int) → el (List.replicate n (⟨none, 0, []⟩ : Rw)) i = ⟨none, 0, []⟩ := fun i h0 h1 => elRep h0 (by simpa using h1)
  refine ⟨fun i h0 h1 => ?_, fun i j h0 h1 h2 h3 _ => ?_⟩
  · rw [e i h0 h1]; exact Ow.nil (fun _ => rfl)
  · rw [e i h0 h1]; exact .inl (Nat.zero_le _)
theorem RowsIn.app {lo hi hi' z : Nat} {w w' : World} {rows : List Rw} {e : Int} {a' : Option Addr} {c' : Nat} {l' : List Int} (h : RowsIn lo hi w rows) (e0 : 0 ≤ e) (e1 : e < rows.length) (ho : Out (blk (el rows e).a) (hi1 (el rows e).a) w w') (hrow : Ow 3 encI 1 lo hi' w' a' c' l') (hh : hi ≤ hi') (hb : hi ≤ z)
    (hat : (blk a' = blk (el rows e).a ∧ hi1 a' = hi1 (el rows e).a) ∨ (blk a' = z ∧ hi1 a' = z + 1)) : RowsIn lo hi' w' (rows.set e.toNat ⟨a', c', l'⟩) := by
  have es : el (rows.set e.toNat (⟨a', c', l'⟩ : Rw)) e = ⟨a', c', l'⟩ := elSetS e0 e1
  have en : ∀ i : Int, 0 ≤ i → i ≠ e → el (rows.set e.toNat (⟨a', c', l'⟩ : Rw)) i = el rows i := fun i h0 hne => elSetN e0 h0 hne
  refine ⟨fun i h0 h1 => ?_, fun i j h0 h1 h2 h3 hne => ?_⟩
  · rw [List.length_set] at h1
    by_cases q : i = e
    · rw [q, es]; exact hrow
    · rw [en i h0 q]
      have hr := h.row i h0 h1
      have hs := h.sep i e h0 h1 e0 e1 q
      have hg := hr.rng
      exact (hr.out ho (by omega)).wide hh
  · rw [List.length_set] at h1 h3
    by_cases q : i = e
    · by_cases q2 : j = e
      · exact absurd (q.trans q2.symm) hne
      · rw [q, es, en j h2 q2]
        have hs := h.sep e j e0 e1 h2 h3 (fun x => q2 x.symm)
        have hg := (h.row j h2 h3).rng
        show hi1 a' ≤ _ ∨ _ ≤ blk a'
        omega
    · by_cases q2 : j = e
      · rw [q2, es, en i h0 q]
        have hs := h.sep i e h0 h1 e0 e1 q
        have hg := (h.row i h0 h1).rng
        show _ ≤ blk a' ∨ hi1 a' ≤ _
        omega
      · rw [en i h0 q, en j h2 q2]; exact h.sep i j h0 h1 h2 h3 hne
def ClsOf (N : Net) (k : Nat) (rows : List Rw) : Prop := ∀ e : Int, 0 ≤ e → e < rows.length → (el rows e).l = clsTo N k e
theorem ClsOf.start {N : Net} {n : Nat} : ClsOf N 0 (List.replicate n ⟨none, 0, []⟩) := fun e h0 h1 => by rw [elRep h0 (by simpa using h1)]; simp [clsTo]
theorem ClsOf.app {N : Net} {k : Nat} {rows : List Rw} {a' : Option Addr} {c' : Nat} (h : ClsOf N k rows) (e0 : 0 ≤ later (el N.acts (k : Int))) (e1 : later (el N.acts (k : Int)) < rows.length) :
    ClsOf N (k + 1) (rows.set (later (el N.acts (k : Int))).toNat ⟨a', c', (el rows (later (el N.acts (k : Int)))).l ++ [(k : Int)]⟩) := by
  intro e h0 h1
  rw [List.length_set] at h1
  rw [cls_step]
  by_cases q : e = later (el N.acts (k : Int))
  · subst q; rw [elSetS e0 e1, if_pos rfl, h _ e0 e1]
  · rw [elSetN e0 h0 q, if_neg (fun x => q x.symm)]; exact h e h0 h1
def LimTo (N : Net) (k : Nat) (L : List Int) : Prop := L.length = k ∧ ∀ p : Nat, p < k → el L p = limI N p
theorem LimTo.add {N : Net} {k : Nat} {L : List Int} {v : Int} (h : LimTo N k L) (hv : v = limI N k) : LimTo N (k + 1) (L ++ [v]) := by
  refine ⟨by simp [h.1], fun p hp => ?_⟩
  have hl := h.1
  by_cases e : p = k
  · subst e
    simp only [el, Int.toNat_natCast, List.getD_eq_getElem?_getD]
    rw [List.getElem?_append_right (by omega), hl]; simp [hv]
  · have := h.2 p (by omega)
    simp only [el, Int.toNat_natCast, List.getD_eq_getElem?_getD] at this ⊢
    rw [List.getElem?_append_left (by omega)]; exact this

def SInv (N : Net) (B : Int) (s : Sr) : Prop := (s.t.length = N.evs.length ∧ ∀ j : Int, 0 ≤ j → j < N.evs.length → 0 ≤ el s.t j ∧ el s.t j < N.p) ∧ 0 ≤ s.used ∧ s.used ≤ B ∧ B ≤ 1048576
theorem SInv.start {N : Net} {B : Int} (h : 2 ≤ N.p) (h1 : 1 ≤ B) (h2 : B ≤ 1048576) : SInv N B (start0 N.evs.length) := ⟨⟨by simp [start0], fun j h0 h1 => by
  rw [show (start0 N.evs.length).t = List.replicate N.evs.length 0 from rfl, elRep h0 h1]; omega⟩, by simp [start0], by simp [start0]; omega, h2⟩
theorem SInv.step {N : Net} {B : Int} {s : Sr} {i : Nat} {x : Int} (h : SInv N B s) (hu : s.used ≠ B) (hi : i < N.evs.length) (x0 : 0 ≤ x) (x1 : x < N.p) : SInv N B (stepS i x s) := by
  obtain ⟨⟨h1, h2⟩, h3, h4, h5⟩ := h
  refine ⟨⟨by simp [stepS, h1], fun j j0 j1 => ?_⟩, by simp only [stepS]; omega, by simp only [stepS]; omega, h5⟩
  by_cases e : j = i
  · have := elSetS (l := s.t) (i := (i : Int)) (v := x) (by omega) (by omega)
    rw [e]; simp only [stepS]
    rw [Int.toNat_natCast] at this; rw [this]; exact ⟨x0, x1⟩
  · have := elSetN (l := s.t) (i := (i : Int)) (j := j) (v := x) (by omega) j0 e
    rw [Int.toNat_natCast] at this
    simp only [stepS]; rw [this]; exact h2 j j0 j1
/-- The state of a search at block 'bs', its times at block 'bt'; what is only read lies in [bt + 1, hi). -/
structure SMem (bs bt hi : Nat) (w : World) (N : Net) (A : NetA) (all : Bool) (B : Int) (s : Sr) : Prop where
  ex : ∃ al cl ac cc ar cr L rows, Blk w bs [.int .i64 N.p, .slice A.ae N.evs.length A.ce, .slice A.aa N.acts.length A.ca, .slice al L.length cl, .slice ac rows.length cc, .slice (some ⟨bt, 0, none⟩) s.t.length N.evs.length, .bool all, .int .i64 B, .int .i64 s.used, .bool s.over, .slice ar s.res.length cr, .int .i64 s.best, .bool s.found] ∧ Ints (bt + 1) hi w al L ∧ LimTo N N.evs.length L ∧ Sl encRw 1 (bt + 1) hi w ac rows ∧ rows.length = N.evs.length ∧ RowsIn (bt + 1) hi w rows ∧ ClsOf N N.acts.length rows ∧ Ow 3 encI 1 bt (bt + 1) w (some ⟨bt, 0, none⟩) N.evs.length s.t ∧ SInv N B s ∧ Ints hi w.heap.size w ar s.res ∧ bs < bt ∧ bt < hi ∧ hi ≤ w.heap.size
theorem SMem.out {bs bt hi : Nat} {w w' : World} {N : Net} {A : NetA} {all : Bool} {B : Int} {s : Sr} {a c : Nat} (h : SMem bs bt hi w N A all B s) (ho : Out a c w w') (hs : w.heap.size ≤ a ∨ c ≤ bs ∨ c ≤ a) : SMem bs bt hi w' N A all B s := by
  obtain ⟨al, cl, ac, cc, ar, cr, L, rows, h1, h2, h3, h4, h5, h6, h7, h8, h9, h10, h11, h12, h13⟩ := h.ex
  have := ho.size
  exact ⟨al, cl, ac, cc, ar, cr, L, rows, h1.out ho (by omega), Sl.out h2 ho (by omega), h3, h4.out ho (by omega), h5, h6.out ho (by omega), h7, h8.out ho (by simp only [blk_some]; omega), h9, Sl.wide (Sl.out h10 ho (by omega)) (Nat.le_refl _) (by omega), h11, h12, by omega⟩
theorem SMem.ext {bs bt hi : Nat} {w w' : World} {N : Net} {A : NetA} {all : Bool} {B : Int} {s : Sr} (h : SMem bs bt hi w N A all B s) (ho : Ext w w') : SMem bs bt hi w' N A all B s := h.out ho (.inr (.inr (Nat.le_refl _)))
def nsE (N : Net) (B : Int) : Int := if netOk N = true then (if 1 ≤ B ∧ B ≤ 1048576 then 0 else 4) else 1

set_option maxHeartbeats 2000000 in
set_option maxRecDepth 100000 in
theorem search_newState_ok (N : Net) (A : NetA) (lo hi : Nat) (B : Int) (all : Bool) (w : World) (hN : NetIn lo hi w N A)  : Cal Try.prog 79 [netV N A, .int .i64 B, .bool all] w (fun v w' => ∃ p e, v = .tuple #[.pointer p, .int .i64 e] ∧ e = nsE N B ∧ (e ≠ 0 → p = none) ∧ (e = 0 → ∃ bs bt hi, p = some ⟨bs, 0, none⟩ ∧ w.heap.size ≤ bs ∧ SMem bs bt hi w' N A all B (start0 N.evs.length)) ∧ Ext w w') := by
 replace hN := hN.full
 have hE : Out 0 0 w w := Out.refl _ _ w
 refine enter Try.func79 rfl Try.ntmps79 rfl ?_
 refine wp_seq ?_
 refine rg ?_
 refine sd (d_boxA rfl ?_)
 intro b3 w1 hbb3 hs3 ho2 hb3
 have hz4 := ho2.size
 replace hN := hN.ext ho2
 replace hE := hE.step ho2 (.inl (Nat.le_refl _))
 refine st (asP rfl) ?_
 refine st (asI rfl) ?_
 refine rg_end ?_
 refine n_then ?_
 refine wp_seq ?_
 refine wp_seq ?_
 refine rg ?_
 refine st (y_lbN hb3 agg26 rfl) ?_
 refine sc cl34 (network_Check_ok N A _ _ _ hN) rfl ?_
 rintro v9 w5 ⟨rfl, ho6⟩
 have hz10 := ho6.size
 replace hN := hN.ext ho6
 replace hE := hE.step ho6 (.inl (Nat.le_refl _))
 replace hb3 := hb3.ext ho6
 refine st (y_not rfl) ?_
 refine rg_end ?_
 refine n_then ?_
 refine cnd rfl (fun hc0 => ?_) (fun hc0 => ?_)
 ·
  try simp only [nm] at hc0
  refine wp_seq ?_
  refine rg ?_
  refine st (asP rfl) ?_
  refine st (asI rfl) ?_
  refine rg_end ?_
  refine n_then ?_
  refine wp_ret ?_
  refine r_then (ret2 (v := (.pointer _)) (v' := (.int .i64 _)) Try.results79 rfl rfl ?_)
  exact ⟨none, 1, rfl, (by unfold nsE; rw [if_neg (by rw [hc0]; decide)]), fun _ => rfl, (fun h => by cases h), hE⟩
 ·
  try simp only [nm] at hc0
  have hok := netOk_iff.1 hc0
  have hne := hok.ev
  have hna := hok.ac
  refine wp_skip ?_
  refine n_then ?_
  refine wp_seq ?_
  refine cut (γ := Unit) [18, 19, 20, 21, 22, 23] (fun _ => [(23, .bool (decide (¬ (1 ≤ B ∧ B ≤ 1048576))))]) (fun _ w_ => Ext w5 w_ ∧ True) ?_ ?_
  ·
   have hcut := Out.refl 0 0 w5
   refine rg ?_
   refine st (mvI rfl) ?_
   refine st (y_lss rfl rfl) ?_
   refine st (mvB rfl) ?_
   refine gspL 20 rfl (fun hg11 => ?_) (fun hg11 => ?_)
   ·
    have hg11n := hg11; try simp only [nm] at hg11n
    refine sts rfl rfl hg11 ?_
    refine sts rfl rfl hg11 ?_
    refine st (y_pickT rfl hg11 (v := .bool _) rfl) ?_
    refine rg_end ?_
    exact n_then ⟨(), _, rfl, same_lk rfl (same_rfl), ⟨vb (by simp only [decide_eq_true_eq, decide_eq_false_iff_not, Bool.not_eq_true', Bool.not_eq_eq_eq_not, Bool.not_true, Bool.false_eq_true, false_iff, true_iff, iff_true, iff_false]; omega), trivial⟩, ⟨hcut, trivial⟩⟩
   ·
    have hg11n := hg11; try simp only [nm] at hg11n
    refine stg rfl rfl hg11 (mvI rfl) ?_
    refine stg rfl rfl hg11 (y_gtr rfl rfl) ?_
    refine st (y_pickF rfl hg11 (v := .bool _) rfl) ?_
    refine rg_end ?_
    exact n_then ⟨(), _, rfl, same_lk rfl (same_rfl), ⟨vb (by simp only [decide_eq_true_eq, decide_eq_false_iff_not, Bool.not_eq_true', Bool.not_eq_eq_eq_not, Bool.not_true, Bool.false_eq_true, false_iff, true_iff, iff_true, iff_false]; omega), trivial⟩, ⟨hcut, trivial⟩⟩
  ·
   rintro _ hav_ w12 ⟨ho13, _⟩
   have hz14 := ho13.size
   replace hN := hN.ext ho13
   replace hE := hE.step ho13 (.inl (Nat.le_refl _))
   replace hb3 := hb3.ext ho13
   refine cnd rfl (fun hc1 => ?_) (fun hc1 => ?_)
   ·
    try simp only [nm] at hc1
    refine wp_seq ?_
    refine rg ?_
    refine st (asP rfl) ?_
    refine st (asI rfl) ?_
    refine rg_end ?_
    refine n_then ?_
    refine wp_ret ?_
    refine r_then (ret2 (v := (.pointer _)) (v' := (.int .i64 _)) Try.results79 rfl rfl ?_)
    exact ⟨none, 4, rfl, (by unfold nsE; rw [if_pos hc0, if_neg hc1]), fun _ => rfl, (fun h => by cases h), hE⟩
   ·
    try simp only [nm] at hc1
    refine wp_skip ?_
    refine n_then ?_
    refine wp_seq ?_
    refine rg ?_
    refine st (y_lbN hb3 agg26 rfl) ?_
    refine st (mvB rfl) ?_
    refine st (mvI rfl) ?_
    refine st (y_build (bld116_0_4_5 _ _ _ _ _ _ _ _ _ _) rfl) ?_
    refine sd (d_boxA rfl ?_)
    intro bs w15 hbbs hs17 ho16 hbs
    have hz18 := ho16.size
    replace hN := hN.ext ho16
    replace hE := hE.step ho16 (.inl (Nat.le_refl _))
    replace hb3 := hb3.ext ho16
    refine st (asP rfl) ?_
    refine rg_end ?_
    refine n_then ?_
    refine wp_seq ?_
    refine rg ?_
    refine st (mvP rfl) ?_
    refine st (y_fld fld26_1 rfl) ?_
    refine st (y_lb hb3 na23 rfl rfl) ?_
    refine st (y_len Try.underlying23 rfl) ?_
    refine sd (d_make (m := N.evs.length) (lo := w15.heap.size) (enc := encI) (e0 := (0 : Int)) sl22 info3 (fun _ => rfl) rfl rfl rfl (by omega) (by unfold maxLen; omega) (by omega) ?_)
    intro bt w19 hbbt hs21 ho20 hT
    have hz23 := ho20.size
    replace hN := hN.ext ho20
    replace hE := hE.step ho20 (.inl (Nat.le_refl _))
    replace hb3 := hb3.ext ho20
    replace hbs := hbs.ext ho20
    refine st (y_nil rfl) ?_
    refine st (y_fld fld116_3 rfl) ?_
    refine sd0 (d_st hbs sz22 rfl rfl rfl (Nat.le_of_ble_eq_true rfl) ?_)
    intro w24 hs26 ho25 hbs'
    clear hbs; have hbs := hbs'; clear hbs'
    have hz27 := ho25.size
    replace hN := hN.out ho25 (by first | omega | (simp only [blk_some, hi1_some] at *; omega))
    replace hE := hE.step ho25 (by first | omega | (simp only [blk_some, hi1_some] at *; omega))
    replace hb3 := hb3.out ho25 (by first | omega | (simp only [blk_some, hi1_some] at *; omega))
    have hrnhT := hT.rng
    replace hT := hT.out ho25 (by first | omega | (simp only [blk_some, hi1_some] at *; omega))
    refine rg_end ?_
    refine n_then ?_
    refine wp_seq ?_
    refine rg ?_
    refine st (mvP rfl) ?_
    refine st (y_fld fld26_1 rfl) ?_
    refine st (y_lb hb3 na23 rfl rfl) ?_
    refine st (y_len Try.underlying23 rfl) ?_
    refine sd (d_make (m := N.evs.length) (lo := (bt + 1)) (enc := encRw) (e0 := (⟨none, 0, []⟩ : Rw)) sl44 info22 (fun _ => rfl) rfl rfl rfl (by omega) (by unfold maxLen; omega) (by omega) ?_)
    intro bh w28 hbbh hs30 ho29 hH
    have hz32 := ho29.size
    replace hN := hN.ext ho29
    replace hE := hE.step ho29 (.inl (Nat.le_refl _))
    replace hb3 := hb3.ext ho29
    replace hbs := hbs.ext ho29
    replace hT := hT.ext ho29
    refine st (y_nil rfl) ?_
    refine st (y_fld fld116_2 rfl) ?_
    refine sd0 (d_st hbs sz44 rfl rfl rfl (Nat.le_of_ble_eq_true rfl) ?_)
    intro w33 hs35 ho34 hbs'
    clear hbs; have hbs := hbs'; clear hbs'
    have hz36 := ho34.size
    replace hN := hN.out ho34 (by first | omega | (simp only [blk_some, hi1_some] at *; omega))
    replace hE := hE.step ho34 (by first | omega | (simp only [blk_some, hi1_some] at *; omega))
    replace hb3 := hb3.out ho34 (by first | omega | (simp only [blk_some, hi1_some] at *; omega))
    replace hT := hT.out ho34 (by first | omega | (simp only [blk_some, hi1_some] at *; omega))
    have hrnhH := hH.rng
    replace hH := hH.out ho34 (by first | omega | (simp only [blk_some, hi1_some] at *; omega))
    refine rg_end ?_
    refine n_then ?_
    refine wp_seq ?_
    refine wp_seq ?_
    refine rg ?_
    refine st (y_fld fld26_2 rfl) ?_
    refine st (y_lb hb3 na24 rfl rfl) ?_
    refine st (y_len Try.underlying24 rfl) ?_
    refine st (mvI rfl) ?_
    refine rg_end ?_
    refine n_then ?_
    refine wp_block ?_
    obtain ⟨z1, hz1⟩ : ∃ z, z = w33.heap.size := ⟨_, rfl⟩
    refine lp (γ := Nat × List Rw) [9, 10, 11, 46, 47, 48, 49, 50, 51, 52, 53, 54, 55, 56, 57, 58, 59, 60, 61, 62, 63, 64, 65, 66, 67, 68, 69, 70, 71, 72] (fun ⟨k, rows⟩ => [(46, .int .i64 (k : Int))]) (fun ⟨k, rows⟩ w_ => Out bh (bh + 1) w33 w_ ∧ (k : Int) ≤ N.acts.length ∧ rows.length = N.evs.length ∧ ClsOf N k rows ∧ RowsIn z1 w_.heap.size w_ rows ∧ Ow 22 encRw 1 (bt + 1) (bh + 1) w_ (some ⟨bh, 0, none⟩) N.evs.length rows) (fun ⟨k, rows⟩ => N.acts.length - k) (0, List.replicate N.evs.length ⟨none, 0, []⟩) ⟨rfl, trivial⟩ ⟨Out.refl _ _ _, by simp, by simp, ClsOf.start, RowsIn.nil, hH⟩ ?_
    rintro ⟨k, rows⟩ hav_ w37 ⟨ho38, hk, hRl, hcls, hrs, hH⟩
    have hlp0 := ho38
    have hz39 := ho38.size
    replace hN := hN.out ho38 (by first | omega | (simp only [blk_some, hi1_some] at *; omega))
    replace hE := hE.step ho38 (by first | omega | (simp only [blk_some, hi1_some] at *; omega))
    replace hb3 := hb3.out ho38 (by first | omega | (simp only [blk_some, hi1_some] at *; omega))
    replace hbs := hbs.out ho38 (by first | omega | (simp only [blk_some, hi1_some] at *; omega))
    replace hT := hT.out ho38 (by first | omega | (simp only [blk_some, hi1_some] at *; omega))
    refine wp_seq ?_
    refine rg ?_
    refine st (y_lss rfl rfl) ?_
    refine rg_end ?_
    refine n_then ?_
    refine wp_seq ?_
    refine cnd rfl (fun hc2 => ?_) (fun hc2 => ?_)
    ·
     try simp only [nm] at hc2
     have ha := hok.acs _ (el_mem (l := N.acts) (i := (k : Int)) (by omega) hc2)
     obtain ⟨f0, f1, t0, t1, _, _, _, _, _, _, _⟩ := ha
     have hl0 : 0 ≤ (max (el N.acts (k : Int)).fr (el N.acts (k : Int)).tt) ∧ (max (el N.acts (k : Int)).fr (el N.acts (k : Int)).tt) < rows.length := by omega
     have hcl := cls_len N k (max (el N.acts (k : Int)).fr (el N.acts (k : Int)).tt)
     rw [← hcls _ hl0.1 hl0.2] at hcl
     refine wp_skip ?_
     refine n_then ?_
     refine wp_seq ?_
     refine wp_block ?_
     refine wp_seq ?_
     refine rg ?_
     refine st (mvI rfl) ?_
     refine st (y_ix hN.a sl24 rfl (rfl) rfl (by omega) (by omega)) ?_
     refine st (y_lw hN.a agg36 rfl (by omega) (by omega)) ?_
     refine sd (d_allocA zer36 ?_)
     intro b10 w40 hbb10 hs42 ho41 hb10
     have hz43 := ho41.size
     replace hN := hN.ext ho41
     replace hE := hE.step ho41 (.inl (Nat.le_refl _))
     replace hb3 := hb3.ext ho41
     replace hbs := hbs.ext ho41
     replace hT := hT.ext ho41
     replace hrs := hrs.ext ho41
     replace hH := hH.ext ho41
     replace hlp0 := hlp0.step ho41 (.inl (Nat.le_refl _))
     refine st (asI rfl) ?_
     refine sd0 (d_stN hb10 rfl rfl sz36 rfl rfl ?_)
     intro w44 hs46 ho45 hb10'
     clear hb10; have hb10 := hb10'; clear hb10'
     have hz47 := ho45.size
     replace hN := hN.out ho45 (by first | omega | (simp only [blk_some, hi1_some] at *; omega))
     replace hE := hE.step ho45 (by first | omega | (simp only [blk_some, hi1_some] at *; omega))
     replace hb3 := hb3.out ho45 (by first | omega | (simp only [blk_some, hi1_some] at *; omega))
     replace hbs := hbs.out ho45 (by first | omega | (simp only [blk_some, hi1_some] at *; omega))
     replace hT := hT.out ho45 (by first | omega | (simp only [blk_some, hi1_some] at *; omega))
     replace hrs := hrs.out ho45 (by first | omega | (simp only [blk_some, hi1_some] at *; omega))
     have hrnhH := hH.rng
     replace hH := hH.out ho45 (by first | omega | (simp only [blk_some, hi1_some] at *; omega))
     replace hlp0 := hlp0.step ho45 (by first | omega | (simp only [blk_some, hi1_some] at *; omega))
     refine rg_end ?_
     refine n_then ?_
     refine wp_seq ?_
     refine rg ?_
     refine st (y_fld fld36_1 rfl) ?_
     refine st (y_lb hb10 na3 rfl rfl) ?_
     refine st (y_fld fld36_2 rfl) ?_
     refine st (y_lb hb10 na3 rfl rfl) ?_
     refine st (y_max rfl rfl) ?_
     refine st (asI rfl) ?_
     refine rg_end ?_
     refine n_then ?_
     have hrow := hrs.row (max (el N.acts (k : Int)).fr (el N.acts (k : Int)).tt) hl0.1 hl0.2
     have hrr := hrow.rng
     refine rgD 15 (fun w_ => Out (blk (el rows (max (el N.acts (k : Int)).fr (el N.acts (k : Int)).tt)).a) (hi1 (el rows (max (el N.acts (k : Int)).fr (el N.acts (k : Int)).tt)).a) w44 w_) (fun i => Nat.beq i 13 || Nat.beq i 14) mixed (by kernel_rfl) ?_
     intro w48 ho49 hs50
     refine ⟨ho49.wide (.inl (Nat.le_refl _)), ?_⟩
     have hx51 := ho49.wide (a' := (blk (el rows (max (el N.acts (k : Int)).fr (el N.acts (k : Int)).tt)).a)) (b' := (hi1 (el rows (max (el N.acts (k : Int)).fr (el N.acts (k : Int)).tt)).a)) (.inl (Nat.le_refl _))
     replace hrow := hrow.ext ho49
     replace hrs := hrs.ext ho49
     refine tn rfl (fun _ hG => mvP rfl) ?_
     refine tn rfl (fun _ hG => y_nil rfl) ?_
     refine tn rfl (fun _ hG => y_fld fld116_2 rfl) ?_
     refine tn rfl (fun _ hG => y_lb (hbs.out hG (by first | omega | (simp only [blk_some, hi1_some] at *; omega))) na44 rfl rfl) ?_
     refine tn rfl (fun _ hG => mvI rfl) ?_
     refine tn rfl (fun _ hG => mvP rfl) ?_
     refine tn rfl (fun _ hG => y_nil rfl) ?_
     refine tn rfl (fun _ hG => y_fld fld116_2 rfl) ?_
     refine tn rfl (fun _ hG => y_lb (hbs.out hG (by first | omega | (simp only [blk_some, hi1_some] at *; omega))) na44 rfl rfl) ?_
     refine tn rfl (fun _ hG => mvI rfl) ?_
     refine tn rfl (fun _ hG => y_ix (hH.out hG (by first | omega | (simp only [blk_some, hi1_some] at *; omega))).sl sl44 rfl (hRl.symm) rfl (by omega) (by omega)) ?_
     refine tn rfl (fun _ hG => y_le (hH.out hG (by first | omega | (simp only [blk_some, hi1_some] at *; omega))).sl na22 rfl (by omega) (by omega) rfl) ?_
     refine tn rfl (fun _ hG => mvI rfl) ?_
     refine td rfl (d_bs (bsl22_1 _ _) rfl ?_)
     intro bl55 w52 hbbl55 hs54 ho53 hbl55
     have hx56 := hx51.step ho53 (.inl (Nat.le_refl _))
     have hz57 := ho53.size
     replace hrow := hrow.ext ho53
     replace hrs := hrs.ext ho53
     refine ⟨hx56, ?_⟩
     have hrhrow := hrow.rng
     refine td rfl (d_appA (xs := [(k : Int)]) hrow sl22 infoz3 (by decide) rfl rfl rfl rfl (hbl55) (fun _ => rfl) (by simp; unfold maxLen; omega) (by simp; omega) (by omega) (by omega) ?_)
     intro ar1 cr1 w58 hat hoA hrow'
     have hs59 := hoA.size
     clear hrow; have hrow := hrow'; clear hrow'
     have hx62 : Out (blk (el rows (max (el N.acts (k : Int)).fr (el N.acts (k : Int)).tt)).a) (hi1 (el rows (max (el N.acts (k : Int)).fr (el N.acts (k : Int)).tt)).a) w44 w58 := hx56.step hoA (by first | omega | (simp only [blk_some, hi1_some] at *; omega))
     replace hbl55 := hbl55.out hoA (by first | omega | (simp only [blk_some, hi1_some] at *; omega))
     refine ⟨hx62, ?_⟩
     have hrs1 := RowsIn.app hrs hl0.1 hl0.2 hoA hrow (by omega) (by omega) hat
     have hcls1 := hcls.app (a' := ar1) (c' := cr1) hl0.1 hl0.2
     refine t_end ?_
     have hz63 := hx62.size
     replace hN := hN.out hx62 (by first | omega | (simp only [blk_some, hi1_some] at *; omega))
     replace hE := hE.step hx62 (by first | omega | (simp only [blk_some, hi1_some] at *; omega))
     replace hb3 := hb3.out hx62 (by first | omega | (simp only [blk_some, hi1_some] at *; omega))
     replace hbs := hbs.out hx62 (by first | omega | (simp only [blk_some, hi1_some] at *; omega))
     replace hT := hT.out hx62 (by first | omega | (simp only [blk_some, hi1_some] at *; omega))
     replace hH := hH.out hx62 (by first | omega | (simp only [blk_some, hi1_some] at *; omega))
     replace hlp0 := hlp0.step hx62 (by first | omega | (simp only [blk_some, hi1_some] at *; omega))
     replace hb10 := hb10.out hx62 (by first | omega | (simp only [blk_some, hi1_some] at *; omega))
     refine st (y_ix hH.sl sl44 rfl (hRl.symm) rfl (by omega) (by omega)) ?_
     refine sd0 (d_se (j := 0) (e' := (⟨ar1, cr1, (el rows (max (el N.acts (k : Int)).fr (el N.acts (k : Int)).tt)).l ++ [(k : Int)]⟩ : Rw)) hH sz22 rfl rfl rfl (by omega) (by omega) (Nat.le_of_ble_eq_true rfl) rfl ?_)
     intro w64 hs66 ho65 hH'
     have hrhH := hH.rng
     clear hH; have hH := hH'; clear hH'
     have hz67 := ho65.size
     replace hN := hN.out ho65 (by first | omega | (simp only [blk_some, hi1_some] at *; omega))
     replace hE := hE.step ho65 (by first | omega | (simp only [blk_some, hi1_some] at *; omega))
     replace hb3 := hb3.out ho65 (by first | omega | (simp only [blk_some, hi1_some] at *; omega))
     replace hbs := hbs.out ho65 (by first | omega | (simp only [blk_some, hi1_some] at *; omega))
     replace hT := hT.out ho65 (by first | omega | (simp only [blk_some, hi1_some] at *; omega))
     replace hlp0 := hlp0.step ho65 (by first | omega | (simp only [blk_some, hi1_some] at *; omega))
     replace hb10 := hb10.out ho65 (by first | omega | (simp only [blk_some, hi1_some] at *; omega))
     replace hbl55 := hbl55.out ho65 (by first | omega | (simp only [blk_some, hi1_some] at *; omega))
     have hrnhrow := hrow.rng
     replace hrow := hrow.out ho65 (by first | omega | (simp only [blk_some, hi1_some] at *; omega))
     replace hrs1 := hrs1.out ho65 (by first | omega | (simp only [blk_some, hi1_some] at *; omega))
     refine rg_end ?_
     refine n_blk ?_
     refine n_then ?_
     refine rg ?_
     refine st (y_add rfl rfl (by omega)) ?_
     refine st (mvI rfl) ?_
     refine rg_end ?_
     exact n_then ⟨(k + 1, _), _, rfl, same_lk rfl (same_h0), ⟨rfl, trivial⟩, ⟨hlp0, by omega, by simp [hRl], hcls1, hrs1.wide (by omega), hH⟩, by first | omega | (dsimp only; omega)⟩
    ·
     try simp only [nm] at hc2
     have hkn : k = N.acts.length := by omega
     subst hkn
     refine wp_exit ?_
     refine e_then (e_then (e_blk (?_)))
     refine n_then ?_
     refine wp_seq ?_
     refine rg ?_
     refine st (asI rfl) ?_
     refine rg_end ?_
     refine n_then ?_
     refine wp_seq ?_
     refine wp_seq ?_
     refine rg ?_
     refine st (y_lbN hb3 agg26 rfl) ?_
     refine sc cl82 (cycles_Components_ok N A _ _ _ hN) rfl ?_
     rintro v72 w68 ⟨aC, cC, C, rfl, hC, hCn, hCy, ho69⟩
     have hcm := hCy hc0
     have hCl := hcm.len
     have hz73 := ho69.size
     replace hN := hN.ext ho69
     replace hE := hE.step ho69 (.inl (Nat.le_refl _))
     replace hb3 := hb3.ext ho69
     replace hbs := hbs.ext ho69
     replace hT := hT.ext ho69
     replace hrs := hrs.ext ho69
     replace hH := hH.ext ho69
     refine st (y_len Try.underlying22 rfl) ?_
     refine st (mvI rfl) ?_
     refine rg_end ?_
     refine n_then ?_
     refine wp_block ?_
     obtain ⟨z3, hz3⟩ : ∃ z, z = w68.heap.size := ⟨_, rfl⟩
     replace hrs := hrs.wide (show _ ≤ z3 by omega)
     refine lp (γ := Nat × List Int × Option Addr × Nat × Int) [12, 14, 76, 77, 78, 79, 80, 81, 82, 83, 84, 85, 86, 87, 88, 89, 90, 91, 92, 93, 94, 95, 96, 97, 98, 99, 100, 101, 102, 103, 104, 105] (fun ⟨k, L, al, cl, q⟩ => [(76, .int .i64 (k : Int)), (12, .int .i64 q)]) (fun ⟨k, L, al, cl, q⟩ w_ => Out bs (bs + 1) w68 w_ ∧ (k : Int) ≤ C.length ∧ LimTo N k L ∧ q = ((cntF (conB N.acts) k : Nat) : Int) ∧ Blk w_ bs [.int .i64 N.p, .slice A.ae N.evs.length A.ce, .slice A.aa N.acts.length A.ca, .slice al L.length cl, .slice (some ⟨bh, 0, none⟩) N.evs.length N.evs.length, .slice (some ⟨bt, 0, none⟩) N.evs.length N.evs.length, .bool all, .int .i64 B, .int .i64 0, .bool false, .slice none 0 0, .int .i64 0, .bool false] ∧ Ow 3 encI 1 z3 w_.heap.size w_ al cl L) (fun ⟨k, L, al, cl, q⟩ => C.length - k) (0, [], none, 0, 0) ⟨rfl, rfl, trivial⟩ ⟨Out.refl _ _ _, by simp, ⟨rfl, fun p hp => by omega⟩, by simp [cntF], hbs, Ow.nil (fun _ => rfl)⟩ ?_
     rintro ⟨k, L, al, cl, q⟩ hav_ w74 ⟨ho75, hk, hlim, hq, hbs, hL⟩
     have hlp1 := ho75
     have hz76 := ho75.size
     replace hN := hN.out ho75 (by first | omega | (simp only [blk_some, hi1_some] at *; omega))
     replace hE := hE.step ho75 (by first | omega | (simp only [blk_some, hi1_some] at *; omega))
     replace hb3 := hb3.out ho75 (by first | omega | (simp only [blk_some, hi1_some] at *; omega))
     replace hT := hT.out ho75 (by first | omega | (simp only [blk_some, hi1_some] at *; omega))
     replace hrs := hrs.out ho75 (by first | omega | (simp only [blk_some, hi1_some] at *; omega))
     have hrnhH := hH.rng
     replace hH := hH.out ho75 (by first | omega | (simp only [blk_some, hi1_some] at *; omega))
     replace hC := hC.out ho75 (by first | omega | (simp only [blk_some, hi1_some] at *; omega))
     refine wp_seq ?_
     refine rg ?_
     refine st (y_lss rfl rfl) ?_
     refine rg_end ?_
     refine n_then ?_
     refine wp_seq ?_
     refine cnd rfl (fun hc3 => ?_) (fun hc3 => ?_)
     ·
      try simp only [nm] at hc3
      have hcn := cntF_le (conB N.acts) k
      have hif := hcm.isFirst (i := k) (by omega)
      have hlr := hL.rng
      have hLl := hlim.1
      refine wp_skip ?_
      refine n_then ?_
      refine wp_seq ?_
      refine wp_block ?_
      refine wp_seq ?_
      refine rg ?_
      refine st (y_ix hC sl22 rfl (rfl) rfl (by omega) (by omega)) ?_
      refine st (y_le hC na3 rfl (by omega) (by omega) rfl) ?_
      refine st (asI rfl) ?_
      refine rg_end ?_
      refine n_then ?_
      refine wp_seq ?_
      refine rg ?_
      refine st (mvI rfl) ?_
      refine st (mvI rfl) ?_
      refine st (y_eql rfl rfl) ?_
      refine rg_end ?_
      refine n_then ?_
      refine cnd rfl (fun hc4 => ?_) (fun hc4 => ?_)
      ·
       try simp only [nm] at hc4
       have hfs := hif.1 (by omega)
       have hlim1 := hlim.add (v := 1) (by unfold limI; rw [if_pos hfs])
       have hq1 : q + 1 = ((cntF (conB N.acts) (k + 1) : Nat) : Int) := by rw [cntF_succ, if_pos hfs]; omega
       refine wp_seq ?_
       refine rg ?_
       refine st (mvP rfl) ?_
       refine st (mvP rfl) ?_
       refine st (y_nil rfl) ?_
       refine st (y_fld fld116_1 rfl) ?_
       refine st (y_lb hbs na22 rfl rfl) ?_
       refine sd (d_bs (bsl22_1 _ _) rfl ?_)
       intro bl80 w77 hbbl80 hs79 ho78 hbl80
       have hz81 := ho78.size
       replace hN := hN.ext ho78
       replace hE := hE.step ho78 (.inl (Nat.le_refl _))
       replace hb3 := hb3.ext ho78
       replace hT := hT.ext ho78
       replace hrs := hrs.ext ho78
       replace hH := hH.ext ho78
       replace hC := hC.ext ho78
       replace hbs := hbs.ext ho78
       replace hL := hL.ext ho78
       replace hlp1 := hlp1.step ho78 (.inl (Nat.le_refl _))
       have hrhL := hL.rng
       refine sd (d_app (xs := [(1 : Int)]) hL sl22 infoz3 (by decide) rfl rfl rfl rfl (hbl80) (fun _ => rfl) (by simp; unfold maxLen; omega) (by simp; omega) (by omega) (by omega) ?_)
       intro al1 cl1 w82 ho83 hL'
       have hs84 := ho83.size
       clear hL; have hL := hL'; clear hL'
       have hz87 := ho83.size
       replace hN := hN.out ho83 (by first | omega | (simp only [blk_some, hi1_some] at *; omega))
       replace hE := hE.step ho83 (by first | omega | (simp only [blk_some, hi1_some] at *; omega))
       replace hb3 := hb3.out ho83 (by first | omega | (simp only [blk_some, hi1_some] at *; omega))
       replace hT := hT.out ho83 (by first | omega | (simp only [blk_some, hi1_some] at *; omega))
       replace hrs := hrs.out ho83 (by first | omega | (simp only [blk_some, hi1_some] at *; omega))
       replace hH := hH.out ho83 (by first | omega | (simp only [blk_some, hi1_some] at *; omega))
       replace hC := hC.out ho83 (by first | omega | (simp only [blk_some, hi1_some] at *; omega))
       replace hbs := hbs.out ho83 (by first | omega | (simp only [blk_some, hi1_some] at *; omega))
       replace hlp1 := hlp1.step ho83 (by first | omega | (simp only [blk_some, hi1_some] at *; omega))
       have hlr1 := hL.rng
       refine st (y_nil rfl) ?_
       refine st (y_fld fld116_1 rfl) ?_
       refine sd0 (d_st hbs sz22 rfl rfl rfl (Nat.le_of_ble_eq_true rfl) ?_)
       intro w88 hs90 ho89 hbs'
       clear hbs; have hbs := hbs'; clear hbs'
       have hz91 := ho89.size
       replace hN := hN.out ho89 (by first | omega | (simp only [blk_some, hi1_some] at *; omega))
       replace hE := hE.step ho89 (by first | omega | (simp only [blk_some, hi1_some] at *; omega))
       replace hb3 := hb3.out ho89 (by first | omega | (simp only [blk_some, hi1_some] at *; omega))
       replace hT := hT.out ho89 (by first | omega | (simp only [blk_some, hi1_some] at *; omega))
       replace hrs := hrs.out ho89 (by first | omega | (simp only [blk_some, hi1_some] at *; omega))
       replace hH := hH.out ho89 (by first | omega | (simp only [blk_some, hi1_some] at *; omega))
       replace hC := hC.out ho89 (by first | omega | (simp only [blk_some, hi1_some] at *; omega))
       replace hlp1 := hlp1.step ho89 (by first | omega | (simp only [blk_some, hi1_some] at *; omega))
       have hrnhL := hL.rng
       replace hL := hL.out ho89 (by first | omega | (simp only [blk_some, hi1_some] at *; omega))
       refine rg_end ?_
       refine n_then ?_
       refine rg ?_
       refine st (mvI rfl) ?_
       refine st (y_add rfl rfl (by omega)) ?_
       refine st (asI rfl) ?_
       refine rg_end ?_
       refine n_blk ?_
       refine n_then ?_
       refine rg ?_
       refine st (y_add rfl rfl (by omega)) ?_
       refine st (mvI rfl) ?_
       refine rg_end ?_
       exact n_then ⟨(k + 1, _, _, _, _), _, rfl, same_lk rfl (same_h0), ⟨rfl, rfl, trivial⟩, ⟨hlp1, by omega, hlim1, hq1, hbs, hL.wide (by omega)⟩, by first | omega | (dsimp only; omega)⟩
      ·
       try simp only [nm] at hc4
       have hfs : ¬ fstB (conB N.acts) k = true := fun h => hc4 (by rw [hif.2 h, hq])
       have hlim1 := hlim.add (v := N.p) (by unfold limI; rw [if_neg hfs])
       have hq1 : q = ((cntF (conB N.acts) (k + 1) : Nat) : Int) := by rw [cntF_succ, if_neg hfs]; omega
       refine rgD 9 (fun w_ => Out (blk al) (hi1 al) w74 w_) (fun i => Nat.beq i 7 || Nat.beq i 8) mixed (by kernel_rfl) ?_
       intro w92 ho93 hs94
       refine ⟨ho93.wide (.inl (Nat.le_refl _)), ?_⟩
       have hx95 := ho93.wide (a' := (blk al)) (b' := (hi1 al)) (.inl (Nat.le_refl _))
       replace hL := hL.ext ho93
       refine tn rfl (fun _ hG => mvP rfl) ?_
       refine tn rfl (fun _ hG => mvP rfl) ?_
       refine tn rfl (fun _ hG => y_nil rfl) ?_
       refine tn rfl (fun _ hG => y_fld fld116_1 rfl) ?_
       refine tn rfl (fun _ hG => y_lb (hbs.out hG (by first | omega | (simp only [blk_some, hi1_some] at *; omega))) na22 rfl rfl) ?_
       refine tn rfl (fun _ hG => y_fld fld26_0 rfl) ?_
       refine tn rfl (fun _ hG => y_lb (hb3.out hG (by first | omega | (simp only [blk_some, hi1_some] at *; omega))) na3 rfl rfl) ?_
       refine td rfl (d_bs (bsl22_1 _ _) rfl ?_)
       intro bl99 w96 hbbl99 hs98 ho97 hbl99
       have hx100 := hx95.step ho97 (.inl (Nat.le_refl _))
       have hz101 := ho97.size
       replace hL := hL.ext ho97
       refine ⟨hx100, ?_⟩
       have hrhL := hL.rng
       refine td rfl (d_app (xs := [N.p]) hL sl22 infoz3 (by decide) rfl rfl rfl rfl (hbl99) (fun _ => rfl) (by simp; unfold maxLen; omega) (by simp; omega) (by omega) (by omega) ?_)
       intro al1 cl1 w102 ho103 hL'
       have hs104 := ho103.size
       clear hL; have hL := hL'; clear hL'
       have hx107 : Out (blk al) (hi1 al) w74 w102 := hx100.step ho103 (by first | omega | (simp only [blk_some, hi1_some] at *; omega))
       replace hbl99 := hbl99.out ho103 (by first | omega | (simp only [blk_some, hi1_some] at *; omega))
       refine ⟨hx107, ?_⟩
       have hlr1 := hL.rng
       refine t_end ?_
       have hz108 := hx107.size
       replace hN := hN.out hx107 (by first | omega | (simp only [blk_some, hi1_some] at *; omega))
       replace hE := hE.step hx107 (by first | omega | (simp only [blk_some, hi1_some] at *; omega))
       replace hb3 := hb3.out hx107 (by first | omega | (simp only [blk_some, hi1_some] at *; omega))
       replace hT := hT.out hx107 (by first | omega | (simp only [blk_some, hi1_some] at *; omega))
       replace hrs := hrs.out hx107 (by first | omega | (simp only [blk_some, hi1_some] at *; omega))
       replace hH := hH.out hx107 (by first | omega | (simp only [blk_some, hi1_some] at *; omega))
       replace hC := hC.out hx107 (by first | omega | (simp only [blk_some, hi1_some] at *; omega))
       replace hbs := hbs.out hx107 (by first | omega | (simp only [blk_some, hi1_some] at *; omega))
       replace hlp1 := hlp1.step hx107 (by first | omega | (simp only [blk_some, hi1_some] at *; omega))
       refine st (y_nil rfl) ?_
       refine st (y_fld fld116_1 rfl) ?_
       refine sd0 (d_st hbs sz22 rfl rfl rfl (Nat.le_of_ble_eq_true rfl) ?_)
       intro w109 hs111 ho110 hbs'
       clear hbs; have hbs := hbs'; clear hbs'
       have hz112 := ho110.size
       replace hN := hN.out ho110 (by first | omega | (simp only [blk_some, hi1_some] at *; omega))
       replace hE := hE.step ho110 (by first | omega | (simp only [blk_some, hi1_some] at *; omega))
       replace hb3 := hb3.out ho110 (by first | omega | (simp only [blk_some, hi1_some] at *; omega))
       replace hT := hT.out ho110 (by first | omega | (simp only [blk_some, hi1_some] at *; omega))
       replace hrs := hrs.out ho110 (by first | omega | (simp only [blk_some, hi1_some] at *; omega))
       replace hH := hH.out ho110 (by first | omega | (simp only [blk_some, hi1_some] at *; omega))
       replace hC := hC.out ho110 (by first | omega | (simp only [blk_some, hi1_some] at *; omega))
       replace hlp1 := hlp1.step ho110 (by first | omega | (simp only [blk_some, hi1_some] at *; omega))
       replace hbl99 := hbl99.out ho110 (by first | omega | (simp only [blk_some, hi1_some] at *; omega))
       have hrnhL := hL.rng
       replace hL := hL.out ho110 (by first | omega | (simp only [blk_some, hi1_some] at *; omega))
       refine rg_end ?_
       refine n_blk ?_
       refine n_then ?_
       refine rg ?_
       refine st (y_add rfl rfl (by omega)) ?_
       refine st (mvI rfl) ?_
       refine rg_end ?_
       exact n_then ⟨(k + 1, _, _, _, _), _, rfl, same_lk rfl (same_h0), ⟨rfl, rfl, trivial⟩, ⟨hlp1, by omega, hlim1, hq1, hbs, hL.wide (by omega)⟩, by first | omega | (dsimp only; omega)⟩
     ·
      try simp only [nm] at hc3
      have hkn : k = N.evs.length := by omega
      subst hkn
      refine wp_exit ?_
      refine e_then (e_then (e_blk (?_)))
      refine n_then ?_
      refine wp_seq ?_
      refine rg ?_
      refine st (mvP rfl) ?_
      refine st (asP rfl) ?_
      refine st (asI rfl) ?_
      refine rg_end ?_
      refine n_then ?_
      refine wp_ret ?_
      refine ret2 (v := (.pointer _)) (v' := (.int .i64 _)) Try.results79 rfl rfl ?_
      have hlr := hL.rng
      exact ⟨_, 0, rfl, (by unfold nsE; rw [if_pos hc0, if_pos hc1]), fun h => absurd rfl h, fun _ => ⟨bs, bt, _, rfl, by omega, ⟨al, cl, some ⟨bh, 0, none⟩, N.evs.length, none, 0, L, rows, by simpa [start0, hRl] using hbs, Sl.wide hL.sl (by omega) (Nat.le_refl _), hlim, Sl.wide hH.sl (by omega) (by omega), hRl, ⟨fun e h0 h1 => ((hrs.row e h0 h1).lower (by omega)).wide (by omega), hrs.sep⟩, hcls, by simpa [start0] using (hT.lower (by omega)), SInv.start hok.p2 hc1.1 hc1.2, ⟨fun h => absurd rfl h, fun i x hx => by simp [start0] at hx⟩, by omega, by omega, Nat.le_refl _⟩⟩, hE⟩
end Go.Proofs.Ytclligkngjhihaa
