/-
  Walks of the functions, printed by a program out of the code and the loops' relations.
-/
import Derived.Test.YtclligkngjhihaaWkD
import Derived.Test.YtclligkngjhihaaProg
import Derived.KernelRfl
import Derived.Test.YtclligkngjhihaaH1
namespace Go.Proofs.Ytclligkngjhihaa
open Go.Wk Go.RowKit
set_option linter.unusedVariables false
set_option linter.unusedSimpArgs false
structure FS where
  left : Int
  used : Int
  b : List Bool
  wit : List (List Int)
def stepF (N : Net) (a : Nat) (s : FS) : Option FS :=
  if sfE (subN N (setB (s.b.set a false))) s.left = 0 then
    some ⟨s.left - sfU (subN N (setB (s.b.set a false))) s.left, s.used + sfU (subN N (setB (s.b.set a false))) s.left,
      if sfB (subN N (setB (s.b.set a false))) s.left = true then s.b else s.b.set a false,
      if sfB (subN N (setB (s.b.set a false))) s.left = true then s.wit ++ [sfT (subN N (setB (s.b.set a false))) s.left] else s.wit⟩
  else none
def runTo (N : Net) (B : Int) : Nat → Option FS
  | 0 => some ⟨B - sfU N B, sfU N B, List.replicate N.acts.length true, []⟩
  | k + 1 => (runTo N B k).bind (stepF N k)
def cfE (N : Net) (B : Int) : Int := if netOk N = true then (if 1 ≤ B ∧ B ≤ 1048576 then (if sfE N B = 0 then (if sfB N B = true then 6 else (match runTo N B N.acts.length with | some _ => 0 | none => 15)) else 15) else 4) else 1
def cfS (N : Net) (B : Int) : List Int := if cfE N B = 0 then (match runTo N B N.acts.length with | some s => setB s.b | none => []) else []
def cfW (N : Net) (B : Int) : List (List Int) := if cfE N B = 0 then (match runTo N B N.acts.length with | some s => s.wit | none => []) else []
def cfU (N : Net) (B : Int) : Int := if cfE N B = 0 then (match runTo N B N.acts.length with | some s => s.used | none => 0) else 0
theorem runTo_none {N : Net} {B : Int} {k : Nat} : ∀ (m : Nat), k ≤ m → runTo N B k = none → runTo N B m = none
  | 0, hk, h => by
    have : k = 0 := by omega
    subst this; exact h
  | m + 1, hk, h => by
    by_cases e : k = m + 1
    · rw [← e]; exact h
    · rw [runTo, runTo_none m (by omega) h]; rfl
/-- Lists in memory, as a table of lists. -/
structure WitIn (lo hi : Nat) (w : World) (ad : Option Addr) (rows : List Rw) : Prop where
  tb : Sl encRw 1 lo hi w ad rows
  row : ∀ r ∈ rows, Ints lo hi w r.a r.l
theorem WitIn.out {lo hi a c : Nat} {w w' : World} {ad : Option Addr} {rows : List Rw} (h : WitIn lo hi w ad rows) (ho : Out a c w w') (hs : hi ≤ a ∨ c ≤ lo ∨ c ≤ a) : WitIn lo hi w' ad rows := ⟨h.tb.out ho hs, fun r hr => (h.row r hr).out ho hs⟩
theorem WitIn.ext {lo hi : Nat} {w w' : World} {ad : Option Addr} {rows : List Rw} (h : WitIn lo hi w ad rows) (ho : Ext w w') : WitIn lo hi w' ad rows := ⟨h.tb.ext ho, fun r hr => (h.row r hr).ext ho⟩

theorem sub_okS {N : Net} {s : List Int} (h : NetOk N) (hl : (s.length : Int) ≤ N.acts.length) (hs : ∀ a ∈ s, 0 ≤ a ∧ a < N.acts.length) : NetOk (subN N s) := by
  have hac := h.ac
  refine ⟨h.p2, h.p7, h.ev, by simp [subN]; omega, fun a ha => ?_⟩
  obtain ⟨q, hq, rfl⟩ := List.mem_map.1 (show a ∈ s.map (el N.acts) from ha)
  have ok := h.acs _ (el_mem (hs q hq).1 (hs q hq).2)
  exact ⟨ok.f0, ok.f1, ok.t0, ok.t1, ok.ne, ok.m0, ok.m1, ok.m2, ok.m3, ok.w0, ok.w1⟩
theorem sfU_rng (N : Net) (L : Int) (h : 0 ≤ L) : 0 ≤ sfU N L ∧ sfU N L ≤ L := by
  have := findU_rng N false L
  unfold sfU
  split <;> omega
theorem setB_len (b : List Bool) : (setB b).length ≤ b.length := setTo_len b _
theorem setB_mem {b : List Bool} : ∀ a ∈ setB b, 0 ≤ a ∧ a < b.length := fun a ha => setTo_mem ha

/-- Rows that lie beside the table at 'aw'. -/
structure WRows (z hi : Nat) (w : World) (aw : Option Addr) (rows : List Rw) : Prop where
  row : ∀ r ∈ rows, ∃ lr hr, Ints lr hr w r.a r.l ∧ z ≤ lr ∧ hr ≤ hi ∧ (hr ≤ blk aw ∨ hi1 aw ≤ lr)
theorem WRows.out {z hi a c : Nat} {w w' : World} {aw : Option Addr} {rows : List Rw} (h : WRows z hi w aw rows) (ho : Out a c w w') (hs : hi ≤ a ∨ c ≤ z ∨ c ≤ a) : WRows z hi w' aw rows :=
  ⟨fun r hr => by obtain ⟨l1, h1, a1, a2, a3, a4⟩ := h.row r hr; exact ⟨l1, h1, a1.out ho (by omega), a2, a3, a4⟩⟩
theorem WRows.ext {z hi : Nat} {w w' : World} {aw : Option Addr} {rows : List Rw} (h : WRows z hi w aw rows) (ho : Ext w w') : WRows z hi w' aw rows := h.out ho (.inr (.inr (Nat.le_refl _)))
theorem WRows.wide {z hi hi' : Nat} {w : World} {aw : Option Addr} {rows : List Rw} (h : WRows z hi w aw rows) (h2 : hi ≤ hi') : WRows z hi' w aw rows :=
  ⟨fun r hr => by obtain ⟨l1, h1, a1, a2, a3, a4⟩ := h.row r hr; exact ⟨l1, h1, a1, a2, by omega, a4⟩⟩
theorem WRows.app {z hi zz : Nat} {w w' : World} {aw a' : Option Addr} {rows : List Rw} {r : Rw} {lr hr : Nat} (h : WRows z hi w aw rows) (hn : Ints lr hr w r.a r.l) (n1 : z ≤ lr) (n2 : hr ≤ hi) (n3 : hr ≤ blk aw ∨ hi1 aw ≤ lr) (ho : Out (blk aw) (hi1 aw) w w') (hz : hi ≤ zz)
    (hat : (blk a' = blk aw ∧ hi1 a' = hi1 aw) ∨ (blk a' = zz ∧ hi1 a' = zz + 1)) : WRows z hi w' a' (rows ++ [r]) := by
  refine ⟨fun q hq => ?_⟩
  rcases List.mem_append.1 hq with hq | hq
  · obtain ⟨l1, h1, a1, a2, a3, a4⟩ := h.row q hq
    exact ⟨l1, h1, a1.out ho (by omega), a2, a3, by omega⟩
  · rw [List.mem_singleton.1 hq]
    exact ⟨lr, hr, hn.out ho (by omega), n1, n2, by omega⟩
end Go.Proofs.Ytclligkngjhihaa
