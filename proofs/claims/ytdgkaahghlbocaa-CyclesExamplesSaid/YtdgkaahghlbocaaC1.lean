/-
  Walks of the functions, printed by a program out of the code and the loops' relations.
-/
import Derived.Test.YtdgkaahghlbocaaWkH
import Derived.Test.YtdgkaahghlbocaaProg
import Derived.KernelRfl
import Derived.Test.YtdgkaahghlbocaaK8
import Derived.Test.YtdgkaahghlbocaaTr
namespace Go.Proofs.Ytdgkaahghlbocaa
open Go.Wk Go.RowKit
set_option linter.unusedVariables false
set_option linter.unusedSimpArgs false
theorem bld75_0_1 (a0 : Int) (a1 : Int) (w : World) : (Instr.build 75 [(0, (.int .i64 a0)), (1, (.int .i64 a1))].toArray).run Try.prog w = .ok (.agg [(.int .i64 a0), (.int .i64 a1)].toArray) w := by kernel_rfl
theorem bsl87_1 (a0_0 : Int) (a0_1 : Int) (w : World) : (Instr.buildSlice 87 1 [(0, (.agg #[(.int .i64 a0_0), (.int .i64 a0_1)]))].toArray).run Try.prog w = .ok (.slice (some ⟨w.heap.size, 0, none⟩) 1 1) (w.alloc (.cells [(.int .i64 a0_0), (.int .i64 a0_1)].toArray 75)) := by kernel_rfl
set_option maxRecDepth 100000 in
theorem info87 : ∃ i, Try.prog.info? 87 = some i ∧ i.zero = some (.slice none 0 0) ∧ i.size = 1 ∧ i.bytes = 24 := ⟨Try.t87, Try.type87, rfl, rfl, rfl⟩
set_option maxRecDepth 100000 in
theorem infoz75 : ∃ i, Try.prog.info? 75 = some i ∧ i.zero = some (.agg #[.int .i64 0, .int .i64 0]) ∧ i.size = 2 ∧ i.bytes = 16 ∧ (Value.cells (.agg #[.int .i64 0, .int .i64 0])).size = 2 := ⟨Try.t75, Try.type75, rfl, rfl, rfl, rfl⟩
theorem na87 : NotAgg Try.prog 87 := Try.isAgg87
theorem sl71 : SliceOf Try.prog 71 87 1 := ⟨Try.underlying71, Try.sizeOf87⟩
theorem sl87 : SliceOf Try.prog 87 75 2 := ⟨Try.underlying87, Try.sizeOf75⟩
theorem sz87 : SzOf Try.prog 87 1 := Try.sizeOf87

/-- Arcs of a forest: an activity and the sign with which it is passed; the arcs that leave an event. -/
def encArc (x : Int × Int) : List Value := [.int .i64 x.1, .int .i64 x.2]
structure ARw where
  a : Option Addr
  c : Nat
  l : List (Int × Int)
  deriving Inhabited
def encARw (r : ARw) : List Value := [.slice r.a r.l.length r.c]
structure ARows (lo hi : Nat) (w : World) (rows : List ARw) : Prop where
  row : ∀ e : Int, 0 ≤ e → e < rows.length → Ow 75 encArc 2 lo hi w (el rows e).a (el rows e).c (el rows e).l
  sep : ∀ e e' : Int, 0 ≤ e → e < rows.length → 0 ≤ e' → e' < rows.length → e ≠ e' → hi1 (el rows e).a ≤ blk (el rows e').a ∨ hi1 (el rows e').a ≤ blk (el rows e).a
theorem ARows.out {lo hi : Nat} {w w' : World} {rows : List ARw} {a c : Nat} (h : ARows lo hi w rows) (ho : Out a c w w') (hs : hi ≤ a ∨ c ≤ lo ∨ c ≤ a) : ARows lo hi w' rows :=
  ⟨fun e h0 h1 => by have hr := h.row e h0 h1; have hg := hr.rng; exact hr.out ho (by omega), h.sep⟩
theorem ARows.ext {lo hi : Nat} {w w' : World} {rows : List ARw} (h : ARows lo hi w rows) (ho : Ext w w') : ARows lo hi w' rows := h.out ho (.inr (.inr (Nat.le_refl _)))
theorem ARows.wide {lo hi hi' : Nat} {w : World} {rows : List ARw} (h : ARows lo hi w rows) (h2 : hi ≤ hi') : ARows lo hi' w rows := ⟨fun e h0 h1 => (h.row e h0 h1).wide h2, h.sep⟩
theorem ARows.nil {lo hi n : Nat} {w : World} : ARows lo hi w (List.replicate n ⟨none, 0, []⟩) := by
  have e : ∀ i : Int, 0 ≤ i → i < ((List.replicate n (⟨none, 0, []⟩ : ARw)).length : Int) → el (List.replicate n (⟨none, 0, []⟩ : ARw)) i = ⟨none, 0, []⟩ := fun i h0 h1 => elRep h0 (by simpa using h1)
  refine ⟨fun i h0 h1 => ?_, fun i j h0 h1 h2 h3 _ => ?_⟩
  · rw [e i h0 h1]; exact Ow.nil (fun _ => rfl)
  · rw [e i h0 h1]; exact .inl (Nat.zero_le _)
theorem ARows.app {lo hi hi' z : Nat} {w w' : World} {rows : List ARw} {e : Int} {a' : Option Addr} {c' : Nat} {l' : List (Int × Int)} (h : ARows lo hi w rows) (e0 : 0 ≤ e) (e1 : e < rows.length) (ho : Out (blk (el rows e).a) (hi1 (el rows e).a) w w') (hrow : Ow 75 encArc 2 lo hi' w' a' c' l') (hh : hi ≤ hi') (hb : hi ≤ z)
    (hat : (blk a' = blk (el rows e).a ∧ hi1 a' = hi1 (el rows e).a) ∨ (blk a' = z ∧ hi1 a' = z + 1)) : ARows lo hi' w' (rows.set e.toNat ⟨a', c', l'⟩) := by
  have es : el (rows.set e.toNat (⟨a', c', l'⟩ : ARw)) e = ⟨a', c', l'⟩ := elSetS e0 e1
  have en : ∀ i : Int, 0 ≤ i → i ≠ e → el (rows.set e.toNat (⟨a', c', l'⟩ : ARw)) i = el rows i := fun i h0 hne => elSetN e0 h0 hne
  refine ⟨fun i h0 h1 => ?_, fun i j h0 h1 h2 h3 hne => ?_⟩
  · rw [List.length_set] at h1
    by_cases q : i = e
    · rw [q, es]; exact hrow
    · rw [en i h0 q]
      have hr := h.row i h0 h1
      have hs := h.sep i e h0 h1 e0 e1 q
      have hg := hr.rng
      exact (hr.out ho (by omega)).wide hh
  · rw [List.length_set] at h1 h3
    by_cases q : i = e
    · by_cases q2 : j = e
      · exact absurd (q.trans q2.symm) hne
      · rw [q, es, en j h2 q2]
        have hs := h.sep e j e0 e1 h2 h3 (fun x => q2 x.symm)
        have hg := (h.row j h2 h3).rng
        show hi1 a' ≤ _ ∨ _ ≤ blk a'
        omega
    · by_cases q2 : j = e
      · rw [q2, es, en i h0 q]
        have hs := h.sep i e h0 h1 e0 e1 q
        have hg := (h.row i h0 h1).rng
        show _ ≤ blk a' ∨ hi1 a' ≤ _
        omega
      · rw [en i h0 q, en j h2 q2]; exact h.sep i j h0 h1 h2 h3 hne
/-- The arcs that leave an event. -/
def lvL (N : Net) (l : List Int) (e : Int) : List (Int × Int) := l.flatMap fun i => (if (el N.acts i).fr = e then [(i, 1)] else []) ++ (if (el N.acts i).tt = e then [(i, -1)] else [])
theorem lvL_cons (N : Net) (e i : Int) (l : List Int) : lvL N (i :: l) e = ((if (el N.acts i).fr = e then [(i, 1)] else []) ++ (if (el N.acts i).tt = e then [(i, -1)] else [])) ++ lvL N l e := by unfold lvL; rw [List.flatMap_cons]
theorem lvL_len (N : Net) (e : Int) : ∀ l : List Int, (lvL N l e).length ≤ 2 * l.length
  | [] => by simp [lvL]
  | i :: l => by
    have := lvL_len N e l
    rw [lvL_cons, List.length_append, List.length_append, List.length_cons]
    have h1 : (if (el N.acts i).fr = e then [(i, (1 : Int))] else []).length ≤ 1 := by split <;> simp
    have h2 : (if (el N.acts i).tt = e then [(i, (-1 : Int))] else []).length ≤ 1 := by split <;> simp
    omega
theorem lvL_snoc (N : Net) (e i : Int) (l : List Int) : lvL N (l ++ [i]) e = lvL N l e ++ ((if (el N.acts i).fr = e then [(i, 1)] else []) ++ (if (el N.acts i).tt = e then [(i, -1)] else [])) := by
  unfold lvL; rw [List.flatMap_append]; simp
theorem lvL_mem {N : Net} {e : Int} {l : List Int} {x : Int × Int} : x ∈ lvL N l e ↔ x.1 ∈ l ∧ ((x.2 = 1 ∧ (el N.acts x.1).fr = e) ∨ (x.2 = -1 ∧ (el N.acts x.1).tt = e)) := by
  unfold lvL
  rw [List.mem_flatMap]
  constructor
  · rintro ⟨i, hi, h⟩
    rcases List.mem_append.1 h with h | h
    · by_cases c : (el N.acts i).fr = e
      · rw [if_pos c] at h; rw [List.mem_singleton.1 h]; exact ⟨hi, .inl ⟨rfl, c⟩⟩
      · rw [if_neg c] at h; cases h
    · by_cases c : (el N.acts i).tt = e
      · rw [if_pos c] at h; rw [List.mem_singleton.1 h]; exact ⟨hi, .inr ⟨rfl, c⟩⟩
      · rw [if_neg c] at h; cases h
  · rintro ⟨hi, h⟩
    obtain ⟨i, s⟩ := x
    refine ⟨i, hi, List.mem_append.2 ?_⟩
    rcases h with ⟨h1, h2⟩ | ⟨h1, h2⟩
    · dsimp only at h1 h2; subst h1; rw [if_pos h2]; exact .inl (by simp)
    · dsimp only at h1 h2; subst h1; rw [if_pos h2]; exact .inr (by simp)
def LvTo (N : Net) (l : List Int) (rows : List ARw) : Prop := rows.length = N.evs.length ∧ ∀ e : Int, 0 ≤ e → e < rows.length → (el rows e).l = lvL N l e
theorem LvTo.start {N : Net} : LvTo N [] (List.replicate N.evs.length ⟨none, 0, []⟩) := ⟨by simp, fun e h0 h1 => by rw [elRep h0 (by simpa using h1)]; rfl⟩
theorem LvTo.step {N : Net} {l : List Int} {i : Int} {rows : List ARw} {a1 a2 : Option Addr} {c1 c2 : Nat} (h : LvTo N l rows) (f0 : 0 ≤ (el N.acts i).fr) (f1 : (el N.acts i).fr < rows.length) (t0 : 0 ≤ (el N.acts i).tt) (t1 : (el N.acts i).tt < rows.length) (hne : (el N.acts i).fr ≠ (el N.acts i).tt) {rows1 : List ARw}
    (hr : rows1 = rows.set (el N.acts i).fr.toNat ⟨a1, c1, (el rows (el N.acts i).fr).l ++ [(i, 1)]⟩) : LvTo N (l ++ [i]) (rows1.set (el N.acts i).tt.toNat ⟨a2, c2, (el rows1 (el N.acts i).tt).l ++ [(i, -1)]⟩) := by
  obtain ⟨hl, h⟩ := h
  have hl1 : rows1.length = rows.length := by rw [hr, List.length_set]
  refine ⟨by rw [List.length_set, hl1]; exact hl, fun e h0 h1 => ?_⟩
  rw [List.length_set, hl1] at h1
  rw [lvL_snoc]
  by_cases q : e = (el N.acts i).tt
  · subst q
    rw [elSetS h0 (by omega), hr, elSetN f0 h0 (fun z => hne z.symm), h _ h0 h1, if_neg hne, if_pos rfl]
    rfl
  · have hq : ¬ (el N.acts i).tt = e := fun z => q z.symm
    rw [elSetN t0 h0 q, hr, if_neg hq]
    by_cases q2 : e = (el N.acts i).fr
    · subst q2
      rw [elSetS h0 h1, h _ h0 h1, if_pos rfl]; simp
    · have hq2 : ¬ (el N.acts i).fr = e := fun z => q2 z.symm
      rw [elSetN f0 h0 q2, h _ h0 h1, if_neg hq2]; simp
structure LvIn (lo hi : Nat) (w : World) (ad : Option Addr) (rows : List ARw) : Prop where
  tb : Sl encARw 1 lo hi w ad rows
  row : ∀ e : Int, 0 ≤ e → e < rows.length → Sl encArc 2 lo hi w (el rows e).a (el rows e).l
theorem LvIn.out {lo hi a c : Nat} {w w' : World} {ad : Option Addr} {rows : List ARw} (h : LvIn lo hi w ad rows) (ho : Out a c w w') (hs : hi ≤ a ∨ c ≤ lo ∨ c ≤ a) : LvIn lo hi w' ad rows := ⟨h.tb.out ho hs, fun e h0 h1 => (h.row e h0 h1).out ho hs⟩
theorem LvIn.ext {lo hi : Nat} {w w' : World} {ad : Option Addr} {rows : List ARw} (h : LvIn lo hi w ad rows) (ho : Ext w w') : LvIn lo hi w' ad rows := h.out ho (.inr (.inr (Nat.le_refl _)))

set_option maxHeartbeats 4000000 in
set_option maxRecDepth 100000 in
theorem cycles_leaving_ok (N : Net) (A : NetA) (lo hi : Nat) (tree : List Int) (at_ : Option Addr) (ct lt ht : Nat) (w : World) (hN : NetIn lo hi w N A) (hT : Ints lt ht w at_ tree) (htn : (tree.length : Int) ≤ 9223372036854775807) (hok : NetOk N) (htm : ∀ a ∈ tree, 0 ≤ a ∧ a < N.acts.length) (htl : tree.length ≤ 512) : Cal Try.prog 46 [netV N A, .slice at_ tree.length ct] w (fun v w' => ∃ ad c rows, v = .slice ad rows.length c ∧ LvIn w.heap.size w'.heap.size w' ad rows ∧ LvTo N tree rows ∧ Ext w w') := by
 replace hN := hN.full
 replace hT := Ints.full hT
 have hev := hok.ev
 have hac := hok.ac
 have hE : Out 0 0 w w := Out.refl _ _ w
 refine enter Try.func46 rfl Try.ntmps46 rfl ?_
 refine wp_seq ?_
 refine rg ?_
 refine sd (d_boxA rfl ?_)
 intro b2 w1 hbb2 hs3 ho2 hb2
 have hz4 := ho2.size
 replace hN := hN.ext ho2
 replace hT := hT.ext ho2
 replace hE := hE.step ho2 (.inl (Nat.le_refl _))
 refine st (asS rfl) ?_
 refine rg_end ?_
 refine n_then ?_
 refine wp_seq ?_
 refine rg ?_
 refine st (y_fld fld26_1 rfl) ?_
 refine st (y_lb hb2 na23 rfl rfl) ?_
 refine st (y_len Try.underlying23 rfl) ?_
 refine sd (d_make (m := N.evs.length) (lo := w.heap.size) (enc := encARw) (e0 := (⟨none, 0, []⟩ : ARw)) sl71 info87 (fun _ => rfl) rfl rfl rfl (by omega) (by unfold maxLen; omega) (by omega) ?_)
 intro bh w5 hbbh hs7 ho6 hH
 have hz9 := ho6.size
 replace hN := hN.ext ho6
 replace hT := hT.ext ho6
 replace hE := hE.step ho6 (.inl (Nat.le_refl _))
 replace hb2 := hb2.ext ho6
 refine st (asS rfl) ?_
 refine rg_end ?_
 refine n_then ?_
 refine wp_seq ?_
 refine wp_seq ?_
 refine rg ?_
 refine st (mvS rfl) ?_
 refine st (y_len Try.underlying22 rfl) ?_
 refine st (mvI rfl) ?_
 refine rg_end ?_
 refine n_then ?_
 refine wp_block ?_
 obtain ⟨z1, hz1⟩ : ∃ z, z = w5.heap.size := ⟨_, rfl⟩
 refine lp (γ := Nat × List ARw) [7, 8, 15, 16, 17, 18, 19, 20, 21, 22, 23, 24, 25, 26, 27, 28, 29, 30, 31, 32, 33, 34, 35, 36, 37, 38, 39, 40, 41, 42, 43, 44, 45, 46, 47, 48, 49, 50] (fun ⟨k, rows⟩ => [(15, .int .i64 (k : Int))]) (fun ⟨k, rows⟩ w_ => Out bh (bh + 1) w5 w_ ∧ (k : Int) ≤ tree.length ∧ LvTo N (tree.take k) rows ∧ ARows z1 w_.heap.size w_ rows ∧ Ow 87 encARw 1 w.heap.size (bh + 1) w_ (some ⟨bh, 0, none⟩) N.evs.length rows) (fun ⟨k, rows⟩ => tree.length - k) (0, List.replicate N.evs.length ⟨none, 0, []⟩) ⟨rfl, trivial⟩ ⟨Out.refl _ _ _, by simp, LvTo.start, ARows.nil, hH⟩ ?_
 rintro ⟨k, rows⟩ hav_ w10 ⟨ho11, hk, hlv, hrs, hH⟩
 have hlp0 := ho11
 have hz12 := ho11.size
 replace hN := hN.out ho11 (by first | omega | (simp only [blk_some, hi1_some] at *; omega))
 replace hT := hT.out ho11 (by first | omega | (simp only [blk_some, hi1_some] at *; omega))
 replace hE := hE.step ho11 (by first | omega | (simp only [blk_some, hi1_some] at *; omega))
 replace hb2 := hb2.out ho11 (by first | omega | (simp only [blk_some, hi1_some] at *; omega))
 refine wp_seq ?_
 refine rg ?_
 refine st (y_lss rfl rfl) ?_
 refine rg_end ?_
 refine n_then ?_
 refine wp_seq ?_
 refine cnd rfl (fun hc0 => ?_) (fun hc0 => ?_)
 ·
  try simp only [nm] at hc0
  have htk := htm _ (el_mem (l := tree) (i := (k : Int)) (by omega) hc0)
  have ha := hok.acs _ (el_mem htk.1 htk.2)
  have hf0 := ha.f0
  have hf1 := ha.f1
  have ht0 := ha.t0
  have ht1 := ha.t1
  have hRl := hlv.1
  have hle1 := lvL_len N (el N.acts (el tree (k : Int))).fr (tree.take k)
  rw [← hlv.2 _ hf0 (by omega)] at hle1
  have hle2 := lvL_len N (el N.acts (el tree (k : Int))).tt (tree.take k)
  rw [← hlv.2 _ ht0 (by omega)] at hle2
  have htk2 : (tree.take k).length ≤ 512 := by rw [List.length_take]; omega
  have hrr0 := (hrs.row (el N.acts (el tree (k : Int))).tt ht0 (by omega)).rng
  refine wp_skip ?_
  refine n_then ?_
  refine wp_seq ?_
  refine wp_block ?_
  refine wp_seq ?_
  refine rg ?_
  refine st (y_ix hT sl22 rfl (rfl) rfl (by omega) (by omega)) ?_
  refine st (y_le hT na3 rfl (by omega) (by omega) rfl) ?_
  refine st (asI rfl) ?_
  refine rg_end ?_
  refine n_then ?_
  refine wp_seq ?_
  refine rg ?_
  refine st (y_fld fld26_2 rfl) ?_
  refine st (y_lb hb2 na24 rfl rfl) ?_
  refine st (mvI rfl) ?_
  refine st (y_ix hN.a sl24 rfl (rfl) rfl (by omega) (by omega)) ?_
  refine st (y_lw hN.a agg43 rfl (by omega) (by omega)) ?_
  refine sd (d_allocA zer43 ?_)
  intro b8 w13 hbb8 hs15 ho14 hb8
  have hz16 := ho14.size
  replace hN := hN.ext ho14
  replace hT := hT.ext ho14
  replace hE := hE.step ho14 (.inl (Nat.le_refl _))
  replace hb2 := hb2.ext ho14
  replace hrs := hrs.ext ho14
  replace hH := hH.ext ho14
  replace hlp0 := hlp0.step ho14 (.inl (Nat.le_refl _))
  refine sd0 (d_stN hb8 rfl rfl sz43 rfl rfl ?_)
  intro w17 hs19 ho18 hb8'
  clear hb8; have hb8 := hb8'; clear hb8'
  have hz20 := ho18.size
  replace hN := hN.out ho18 (by first | omega | (simp only [blk_some, hi1_some] at *; omega))
  replace hT := hT.out ho18 (by first | omega | (simp only [blk_some, hi1_some] at *; omega))
  replace hE := hE.step ho18 (by first | omega | (simp only [blk_some, hi1_some] at *; omega))
  replace hb2 := hb2.out ho18 (by first | omega | (simp only [blk_some, hi1_some] at *; omega))
  replace hrs := hrs.out ho18 (by first | omega | (simp only [blk_some, hi1_some] at *; omega))
  have hrnhH := hH.rng
  replace hH := hH.out ho18 (by first | omega | (simp only [blk_some, hi1_some] at *; omega))
  replace hlp0 := hlp0.step ho18 (by first | omega | (simp only [blk_some, hi1_some] at *; omega))
  refine rg_end ?_
  refine n_then ?_
  refine wp_seq ?_
  have hrow := hrs.row (el N.acts (el tree (k : Int))).fr hf0 (by omega)
  have hrr := hrow.rng
  refine rgD 12 (fun w_ => Out (blk (el rows (el N.acts (el tree (k : Int))).fr).a) (hi1 (el rows (el N.acts (el tree (k : Int))).fr).a) w17 w_) (fun i => Nat.beq i 10 || Nat.beq i 11) mixed (by kernel_rfl) ?_
  intro w21 ho22 hs23
  refine ⟨ho22.wide (.inl (Nat.le_refl _)), ?_⟩
  have hx24 := ho22.wide (a' := (blk (el rows (el N.acts (el tree (k : Int))).fr).a)) (b' := (hi1 (el rows (el N.acts (el tree (k : Int))).fr).a)) (.inl (Nat.le_refl _))
  replace hrow := hrow.ext ho22
  replace hrs := hrs.ext ho22
  refine tn rfl (fun _ hG => mvS rfl) ?_
  refine tn rfl (fun _ hG => y_fld fld43_1 rfl) ?_
  refine tn rfl (fun _ hG => y_lb (hb8.out hG (by first | omega | (simp only [blk_some, hi1_some] at *; omega))) na3 rfl rfl) ?_
  refine tn rfl (fun _ hG => mvS rfl) ?_
  refine tn rfl (fun _ hG => y_fld fld43_1 rfl) ?_
  refine tn rfl (fun _ hG => y_lb (hb8.out hG (by first | omega | (simp only [blk_some, hi1_some] at *; omega))) na3 rfl rfl) ?_
  refine tn rfl (fun _ hG => y_ix (hH.out hG (by first | omega | (simp only [blk_some, hi1_some] at *; omega))).sl sl71 rfl (hlv.1.symm) rfl (hf0) (by omega)) ?_
  refine tn rfl (fun _ hG => y_le (hH.out hG (by first | omega | (simp only [blk_some, hi1_some] at *; omega))).sl na87 rfl (hf0) (by omega) rfl) ?_
  refine tn rfl (fun _ hG => mvI rfl) ?_
  refine tn rfl (fun _ hG => y_build (bld75_0_1 _ _ _) rfl) ?_
  refine td rfl (d_bs (bsl87_1 _ _ _) rfl ?_)
  intro bl28 w25 hbbl28 hs27 ho26 hbl28
  have hx29 := hx24.step ho26 (.inl (Nat.le_refl _))
  have hz30 := ho26.size
  replace hrow := hrow.ext ho26
  replace hrs := hrs.ext ho26
  refine ⟨hx29, ?_⟩
  have hrhrow := hrow.rng
  refine td rfl (d_appA (xs := [((el tree (k : Int)), (1 : Int))]) hrow sl87 infoz75 (by decide) rfl rfl rfl rfl (hbl28) (fun _ => rfl) (by simp; unfold maxLen; omega) (by simp; omega) (by omega) (by omega) ?_)
  intro af cf w31 hatf hoAf hrow'
  have hs32 := hoAf.size
  clear hrow; have hrow := hrow'; clear hrow'
  have hx35 : Out (blk (el rows (el N.acts (el tree (k : Int))).fr).a) (hi1 (el rows (el N.acts (el tree (k : Int))).fr).a) w17 w31 := hx29.step hoAf (by first | omega | (simp only [blk_some, hi1_some] at *; omega))
  replace hbl28 := hbl28.out hoAf (by first | omega | (simp only [blk_some, hi1_some] at *; omega))
  refine ⟨hx35, ?_⟩
  have hrs1 := ARows.app hrs hf0 (by omega) hoAf hrow (by omega) (by omega) hatf
  refine t_end ?_
  have hz36 := hx35.size
  replace hN := hN.out hx35 (by first | omega | (simp only [blk_some, hi1_some] at *; omega))
  replace hT := hT.out hx35 (by first | omega | (simp only [blk_some, hi1_some] at *; omega))
  replace hE := hE.step hx35 (by first | omega | (simp only [blk_some, hi1_some] at *; omega))
  replace hb2 := hb2.out hx35 (by first | omega | (simp only [blk_some, hi1_some] at *; omega))
  replace hH := hH.out hx35 (by first | omega | (simp only [blk_some, hi1_some] at *; omega))
  replace hlp0 := hlp0.step hx35 (by first | omega | (simp only [blk_some, hi1_some] at *; omega))
  replace hb8 := hb8.out hx35 (by first | omega | (simp only [blk_some, hi1_some] at *; omega))
  refine st (y_ix hH.sl sl71 rfl (hlv.1.symm) rfl (hf0) (by omega)) ?_
  refine sd0 (d_se (j := 0) (e' := (⟨af, cf, (el rows (el N.acts (el tree (k : Int))).fr).l ++ [((el tree (k : Int)), 1)]⟩ : ARw)) hH sz87 rfl rfl rfl (hf0) (by omega) (Nat.le_of_ble_eq_true rfl) rfl ?_)
  intro w37 hs39 ho38 hH'
  have hrhH := hH.rng
  clear hH; have hH := hH'; clear hH'
  have hz40 := ho38.size
  replace hN := hN.out ho38 (by first | omega | (simp only [blk_some, hi1_some] at *; omega))
  replace hT := hT.out ho38 (by first | omega | (simp only [blk_some, hi1_some] at *; omega))
  replace hE := hE.step ho38 (by first | omega | (simp only [blk_some, hi1_some] at *; omega))
  replace hb2 := hb2.out ho38 (by first | omega | (simp only [blk_some, hi1_some] at *; omega))
  replace hlp0 := hlp0.step ho38 (by first | omega | (simp only [blk_some, hi1_some] at *; omega))
  replace hb8 := hb8.out ho38 (by first | omega | (simp only [blk_some, hi1_some] at *; omega))
  replace hbl28 := hbl28.out ho38 (by first | omega | (simp only [blk_some, hi1_some] at *; omega))
  have hrnhrow := hrow.rng
  replace hrow := hrow.out ho38 (by first | omega | (simp only [blk_some, hi1_some] at *; omega))
  replace hrs1 := hrs1.out ho38 (by first | omega | (simp only [blk_some, hi1_some] at *; omega))
  obtain ⟨rows1, hr1⟩ : ∃ r, r = rows.set (el N.acts (el tree (k : Int))).fr.toNat (⟨af, cf, (el rows (el N.acts (el tree (k : Int))).fr).l ++ [((el tree (k : Int)), 1)]⟩ : ARw) := ⟨_, rfl⟩
  rw [← hr1] at hH hrs1
  have hRl1 : rows1.length = N.evs.length := by rw [hr1, List.length_set]; exact hRl
  have hrt : (el rows1 (el N.acts (el tree (k : Int))).tt).l = (el rows (el N.acts (el tree (k : Int))).tt).l := by rw [hr1, elSetN hf0 ht0 (fun z => ha.ne z.symm)]
  rw [← hrt] at hle2
  have hre : el rows1 (el N.acts (el tree (k : Int))).tt = el rows (el N.acts (el tree (k : Int))).tt := by rw [hr1, elSetN hf0 ht0 (fun z => ha.ne z.symm)]
  rw [← hre] at hrr0
  refine rg_end ?_
  refine n_then ?_
  have hrow := hrs1.row (el N.acts (el tree (k : Int))).tt ht0 (by omega)
  have hrr := hrow.rng
  refine rgD 12 (fun w_ => Out (blk (el rows1 (el N.acts (el tree (k : Int))).tt).a) (hi1 (el rows1 (el N.acts (el tree (k : Int))).tt).a) w37 w_) (fun i => Nat.beq i 10 || Nat.beq i 11) mixed (by kernel_rfl) ?_
  intro w41 ho42 hs43
  refine ⟨ho42.wide (.inl (Nat.le_refl _)), ?_⟩
  have hx44 := ho42.wide (a' := (blk (el rows1 (el N.acts (el tree (k : Int))).tt).a)) (b' := (hi1 (el rows1 (el N.acts (el tree (k : Int))).tt).a)) (.inl (Nat.le_refl _))
  replace hrow := hrow.ext ho42
  replace hrs1 := hrs1.ext ho42
  refine tn rfl (fun _ hG => mvS rfl) ?_
  refine tn rfl (fun _ hG => y_fld fld43_2 rfl) ?_
  refine tn rfl (fun _ hG => y_lb (hb8.out hG (by first | omega | (simp only [blk_some, hi1_some] at *; omega))) na3 rfl rfl) ?_
  refine tn rfl (fun _ hG => mvS rfl) ?_
  refine tn rfl (fun _ hG => y_fld fld43_2 rfl) ?_
  refine tn rfl (fun _ hG => y_lb (hb8.out hG (by first | omega | (simp only [blk_some, hi1_some] at *; omega))) na3 rfl rfl) ?_
  refine tn rfl (fun _ hG => y_ix (hH.out hG (by first | omega | (simp only [blk_some, hi1_some] at *; omega))).sl sl71 rfl (hRl1.symm) rfl (ht0) (by omega)) ?_
  refine tn rfl (fun _ hG => y_le (hH.out hG (by first | omega | (simp only [blk_some, hi1_some] at *; omega))).sl na87 rfl (ht0) (by omega) rfl) ?_
  refine tn rfl (fun _ hG => mvI rfl) ?_
  refine tn rfl (fun _ hG => y_build (bld75_0_1 _ _ _) rfl) ?_
  refine td rfl (d_bs (bsl87_1 _ _ _) rfl ?_)
  intro bl48 w45 hbbl48 hs47 ho46 hbl48
  have hx49 := hx44.step ho46 (.inl (Nat.le_refl _))
  have hz50 := ho46.size
  replace hrow := hrow.ext ho46
  replace hrs1 := hrs1.ext ho46
  refine ⟨hx49, ?_⟩
  have hrhrow := hrow.rng
  refine td rfl (d_appA (xs := [((el tree (k : Int)), (-1 : Int))]) hrow sl87 infoz75 (by decide) rfl rfl rfl rfl (hbl48) (fun _ => rfl) (by simp; unfold maxLen; omega) (by simp; omega) (by omega) (by omega) ?_)
  intro at1 ct1 w51 hatt hoAt hrow'
  have hs52 := hoAt.size
  clear hrow; have hrow := hrow'; clear hrow'
  have hx55 : Out (blk (el rows1 (el N.acts (el tree (k : Int))).tt).a) (hi1 (el rows1 (el N.acts (el tree (k : Int))).tt).a) w37 w51 := hx49.step hoAt (by first | omega | (simp only [blk_some, hi1_some] at *; omega))
  replace hbl48 := hbl48.out hoAt (by first | omega | (simp only [blk_some, hi1_some] at *; omega))
  refine ⟨hx55, ?_⟩
  have hrs2 := ARows.app hrs1 ht0 (by omega) hoAt hrow (by omega) (by omega) hatt
  have hlv1 := hlv.step (a1 := af) (c1 := cf) (a2 := at1) (c2 := ct1) hf0 (by omega) ht0 (by omega) ha.ne hr1
  rw [← tkS hc0] at hlv1
  refine t_end ?_
  have hz56 := hx55.size
  replace hN := hN.out hx55 (by first | omega | (simp only [blk_some, hi1_some] at *; omega))
  replace hT := hT.out hx55 (by first | omega | (simp only [blk_some, hi1_some] at *; omega))
  replace hE := hE.step hx55 (by first | omega | (simp only [blk_some, hi1_some] at *; omega))
  replace hb2 := hb2.out hx55 (by first | omega | (simp only [blk_some, hi1_some] at *; omega))
  replace hH := hH.out hx55 (by first | omega | (simp only [blk_some, hi1_some] at *; omega))
  replace hlp0 := hlp0.step hx55 (by first | omega | (simp only [blk_some, hi1_some] at *; omega))
  replace hb8 := hb8.out hx55 (by first | omega | (simp only [blk_some, hi1_some] at *; omega))
  replace hbl28 := hbl28.out hx55 (by first | omega | (simp only [blk_some, hi1_some] at *; omega))
  refine st (y_ix hH.sl sl71 rfl (hRl1.symm) rfl (ht0) (by omega)) ?_
  refine sd0 (d_se (j := 0) (e' := (⟨at1, ct1, (el rows1 (el N.acts (el tree (k : Int))).tt).l ++ [((el tree (k : Int)), -1)]⟩ : ARw)) hH sz87 rfl rfl rfl (ht0) (by omega) (Nat.le_of_ble_eq_true rfl) rfl ?_)
  intro w57 hs59 ho58 hH'
  have hrhH := hH.rng
  clear hH; have hH := hH'; clear hH'
  have hz60 := ho58.size
  replace hN := hN.out ho58 (by first | omega | (simp only [blk_some, hi1_some] at *; omega))
  replace hT := hT.out ho58 (by first | omega | (simp only [blk_some, hi1_some] at *; omega))
  replace hE := hE.step ho58 (by first | omega | (simp only [blk_some, hi1_some] at *; omega))
  replace hb2 := hb2.out ho58 (by first | omega | (simp only [blk_some, hi1_some] at *; omega))
  replace hlp0 := hlp0.step ho58 (by first | omega | (simp only [blk_some, hi1_some] at *; omega))
  replace hb8 := hb8.out ho58 (by first | omega | (simp only [blk_some, hi1_some] at *; omega))
  replace hbl28 := hbl28.out ho58 (by first | omega | (simp only [blk_some, hi1_some] at *; omega))
  replace hbl48 := hbl48.out ho58 (by first | omega | (simp only [blk_some, hi1_some] at *; omega))
  have hrnhrow := hrow.rng
  replace hrow := hrow.out ho58 (by first | omega | (simp only [blk_some, hi1_some] at *; omega))
  replace hrs2 := hrs2.out ho58 (by first | omega | (simp only [blk_some, hi1_some] at *; omega))
  refine rg_end ?_
  refine n_blk ?_
  refine n_then ?_
  refine rg ?_
  refine st (y_add rfl rfl (by omega)) ?_
  refine st (mvI rfl) ?_
  refine rg_end ?_
  exact n_then ⟨(k + 1, _), _, rfl, same_lk rfl (same_h0), ⟨rfl, trivial⟩, ⟨hlp0, by omega, hlv1, hrs2.wide (by omega), hH⟩, by first | omega | (dsimp only; omega)⟩
 ·
  try simp only [nm] at hc0
  rw [tkE hc0] at hlv
  have hRl := hlv.1
  have hHr := hH.rng
  refine wp_exit ?_
  refine e_then (e_then (e_blk (?_)))
  refine n_then ?_
  refine wp_seq ?_
  refine rg ?_
  refine st (mvS rfl) ?_
  refine st (asS rfl) ?_
  refine rg_end ?_
  refine n_then ?_
  refine wp_ret ?_
  refine ret1 (v := (.slice _ _ _)) Try.results46 rfl ?_
  exact ⟨_, _, rows, by rw [hRl], ⟨hH.sl.wide (Nat.le_refl _) (by omega), fun e h0 h1 => ((hrs.row e h0 h1).sl.wide (by omega) (by omega))⟩, hlv, hE⟩
end Go.Proofs.Ytdgkaahghlbocaa
