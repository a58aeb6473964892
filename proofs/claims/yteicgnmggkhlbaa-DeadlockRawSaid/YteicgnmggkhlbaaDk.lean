/-
  Paths of trains as plain data (layers 35 and 36), and how they lie in memory.
-/
import Derived.Test.YteicgnmggkhlbaaWkM
import Derived.Test.YteicgnmggkhlbaaPt
namespace Go.Wk
open Go.RowKit
set_option linter.unusedVariables false
set_option linter.unusedSimpArgs false

structure Sg where
  sec : Int
  pa : Option Addr
  pc : Nat
  pts : List Int
  mn : Int
  nt : Int
  deriving Inhabited
structure Pw where
  a : Option Addr
  c : Nat
  st : List Sg
  deriving Inhabited
def encSg (s : Sg) : List Value := [.int .i64 s.sec, .slice s.pa s.pts.length s.pc, .int .i64 s.mn, .int .i64 s.nt]
def encPw (r : Pw) : List Value := [.slice r.a r.st.length r.c]
structure PIn (lo hi : Nat) (w : World) (ad : Option Addr) (rows : List Pw) : Prop where
  tb : Sl encPw 1 lo hi w ad rows
  row : ∀ r ∈ rows, Sl encSg 4 lo hi w r.a r.st
  pts : ∀ r ∈ rows, ∀ s ∈ r.st, Ints lo hi w s.pa s.pts
theorem PIn.out {lo hi a c : Nat} {w w' : World} {ad : Option Addr} {rows : List Pw} (h : PIn lo hi w ad rows) (ho : Out a c w w') (hs : hi ≤ a ∨ c ≤ lo ∨ c ≤ a) : PIn lo hi w' ad rows := ⟨h.tb.out ho hs, fun r hr => (h.row r hr).out ho hs, fun r hr s hs' => (h.pts r hr s hs').out ho hs⟩
theorem PIn.ext {lo hi : Nat} {w w' : World} {ad : Option Addr} {rows : List Pw} (h : PIn lo hi w ad rows) (ho : Ext w w') : PIn lo hi w' ad rows := h.out ho (.inr (.inr (Nat.le_refl _)))
theorem PIn.full {lo hi : Nat} {w : World} {ad : Option Addr} {rows : List Pw} (h : PIn lo hi w ad rows) : PIn 0 w.heap.size w ad rows := ⟨h.tb.full (fun _ => by simp [encPw]), fun r hr => (h.row r hr).full (fun _ => by simp [encSg]), fun r hr s hs => Ints.full (h.pts r hr s hs)⟩
theorem PIn.wide {lo hi lo' hi' : Nat} {w : World} {ad : Option Addr} {rows : List Pw} (h : PIn lo hi w ad rows) (h1 : lo' ≤ lo) (h2 : hi ≤ hi') : PIn lo' hi' w ad rows := ⟨h.tb.wide h1 h2, fun r hr => (h.row r hr).wide h1 h2, fun r hr s hs => Sl.wide (h.pts r hr s hs) h1 h2⟩

/-! ### Valid paths -/
structure SgOk (s : Sg) : Prop where
  s0 : 0 ≤ s.sec
  s1 : s.sec < 144
  p2 : s.pts.length ≤ 2
  m0 : 0 ≤ s.mn
  m1 : s.mn ≤ 4194304
  n0 : 0 ≤ s.nt
  n1 : s.nt ≤ 4194304
  pt : ∀ q : Nat, q < s.pts.length → 0 ≤ el s.pts (q : Int) ∧ el s.pts (q : Int) < 144 ∧ el s.pts (q : Int) ≠ s.sec ∧ (0 < q → el s.pts (q : Int) ≠ el s.pts 0)
structure RowOk (r : Pw) : Prop where
  l1 : 1 ≤ r.st.length
  l2 : r.st.length ≤ 64
  sg : ∀ j : Nat, j < r.st.length → SgOk (el r.st (j : Int))
  nx : ∀ j : Nat, 0 < j → j < r.st.length → (el r.st ((j : Int) - 1)).sec ≠ (el r.st (j : Int)).sec
def allS (rows : List Pw) : List Sg := rows.flatMap (·.st)
structure VaP (rows : List Pw) : Prop where
  len : rows.length ≤ 10
  row : ∀ r ∈ rows, RowOk r
  sep : ∀ s ∈ allS rows, ∀ s' ∈ allS rows, ¬ s.sec ∈ s'.pts
/-- What the two tables say of the stages that have been passed. -/
def MkS (S : List Bool) (ss : List Sg) : Prop := S.length = 144 ∧ ∀ r : Int, 0 ≤ r → r < 144 → (el S r = true ↔ ∃ s ∈ ss, s.sec = r)
def MkQ (Q : List Bool) (ss : List Sg) (more : List Int) : Prop := Q.length = 144 ∧ ∀ r : Int, 0 ≤ r → r < 144 → (el Q r = true ↔ (∃ s ∈ ss, r ∈ s.pts) ∨ r ∈ more)
theorem MkS.zero : MkS (List.replicate 144 false) [] := ⟨by simp, fun r h0 h1 => by rw [elRep h0 h1]; simp⟩
theorem MkQ.zero : MkQ (List.replicate 144 false) [] [] := ⟨by simp, fun r h0 h1 => by rw [elRep h0 h1]; simp⟩
theorem MkS.put {S : List Bool} {ss : List Sg} {s : Sg} (h : MkS S ss) (h0 : 0 ≤ s.sec) (h1 : s.sec < 144) : MkS (S.set s.sec.toNat true) (ss ++ [s]) := by
  obtain ⟨hl, h⟩ := h
  refine ⟨by simpa using hl, fun r r0 r1 => ?_⟩
  by_cases e : r = s.sec
  · rw [e, elSetS h0 (by omega)]; exact ⟨fun _ => ⟨s, by simp, rfl⟩, fun _ => rfl⟩
  · rw [elSetN h0 r0 e, h r r0 r1]
    constructor
    · rintro ⟨x, hx, q⟩; exact ⟨x, List.mem_append_left _ hx, q⟩
    · rintro ⟨x, hx, q⟩
      rcases List.mem_append.1 hx with k | k
      · exact ⟨x, k, q⟩
      · rw [List.mem_singleton.1 k] at q; exact absurd q.symm e
theorem MkQ.put {Q : List Bool} {ss : List Sg} {more : List Int} {p : Int} (h : MkQ Q ss more) (h0 : 0 ≤ p) (h1 : p < 144) : MkQ (Q.set p.toNat true) ss (more ++ [p]) := by
  obtain ⟨hl, h⟩ := h
  refine ⟨by simpa using hl, fun r r0 r1 => ?_⟩
  by_cases e : r = p
  · rw [e, elSetS h0 (by omega)]; simp
  · rw [elSetN h0 r0 e, h r r0 r1, List.mem_append, List.mem_singleton]
    constructor
    · rintro (k | k)
      · exact .inl k
      · exact .inr (.inl k)
    · rintro (k | k | k)
      · exact .inl k
      · exact .inr k
      · exact absurd k e
theorem MkQ.done {Q : List Bool} {ss : List Sg} {s : Sg} (h : MkQ Q ss s.pts) : MkQ Q (ss ++ [s]) [] := by
  obtain ⟨hl, h⟩ := h
  refine ⟨hl, fun r r0 r1 => ?_⟩
  rw [h r r0 r1]
  constructor
  · rintro (⟨x, hx, q⟩ | k)
    · exact .inl ⟨x, List.mem_append_left _ hx, q⟩
    · exact .inl ⟨s, by simp, k⟩
  · rintro (⟨x, hx, q⟩ | k)
    · rcases List.mem_append.1 hx with k | k
      · exact .inl ⟨x, k, q⟩
      · rw [List.mem_singleton.1 k] at q; exact .inr q
    · cases k
theorem allS_take {rows : List Pw} {k : Nat} (hk : (k : Int) < rows.length) : allS (rows.take (k + 1)) = allS (rows.take k) ++ (el rows (k : Int)).st := by
  rw [tkS hk]; simp [allS, List.flatMap_append]
theorem all_mem {rows : List Pw} {r : Pw} {s : Sg} (h : r ∈ rows) (hs : s ∈ r.st) : s ∈ allS rows := List.mem_flatMap.2 ⟨r, h, hs⟩
theorem all_inv {rows : List Pw} {s : Sg} (h : s ∈ allS rows) : ∃ r ∈ rows, s ∈ r.st := List.mem_flatMap.1 h
theorem VaP.sgOk {rows : List Pw} (h : VaP rows) {s : Sg} (hs : s ∈ allS rows) : SgOk s := by
  obtain ⟨r, hr, hm⟩ := all_inv hs
  obtain ⟨j, hj, rfl⟩ := List.getElem_of_mem hm
  have := (h.row r hr).sg j hj
  simpa [el, hj] using this
theorem SgOk.mem {s : Sg} (h : SgOk s) {p : Int} (hp : p ∈ s.pts) : 0 ≤ p ∧ p < 144 := by
  obtain ⟨q, hq, rfl⟩ := List.getElem_of_mem hp
  have := h.pt q hq
  have e : el s.pts (q : Int) = s.pts[q] := by simp [el, hq]
  rw [e] at this; exact ⟨this.1, this.2.1⟩
end Go.Wk
