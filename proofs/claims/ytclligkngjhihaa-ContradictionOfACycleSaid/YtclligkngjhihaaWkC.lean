/-
  The operations: what each yields over a frame that is a function; steps in a plain region and in one that draws its order.
-/
import Derived.Test.YtclligkngjhihaaWkB
namespace Go.Wk
set_option linter.unusedVariables false
set_option linter.unusedSimpArgs false

/-- In the world 'w' the operation yields 'v' and leaves the world as it is. -/
def Yl (P : Program) (n : Nat) (f : Nat → Value) (o : Oper) (w : World) (v : Value) : Prop := (execOp (ev n f) o).run P w = .ok (.value v) w

section
variable {P : Program} {n : Nat} {f : Nat → Value} {d : Option Tmp} {ty : TypeId} {pos : String} {af : Array Edge} {gd : Option (Nat × Bool)} {w : World} {x y z : Operand} {T T' : TypeId} {u v : Value} {a b : Int} {k : IntKind} {p q : Bool}

theorem mvI  (h : ev n f x = .int k a) : Yl P n f ⟨d, .move x, ty, pos, af, gd⟩ w (.int k a) := by simp [Yl, execOp, h]
theorem asI  (h : ev n f x = .int k a) : Yl P n f ⟨d, .assign x, ty, pos, af, gd⟩ w (.int k a) := by simp [Yl, execOp, h]
theorem mvB  (h : ev n f x = .bool p) : Yl P n f ⟨d, .move x, ty, pos, af, gd⟩ w (.bool p) := by simp [Yl, execOp, h]
theorem asB  (h : ev n f x = .bool p) : Yl P n f ⟨d, .assign x, ty, pos, af, gd⟩ w (.bool p) := by simp [Yl, execOp, h]
theorem mvS {ad : Option Addr} {l c : Nat} (h : ev n f x = .slice ad l c) : Yl P n f ⟨d, .move x, ty, pos, af, gd⟩ w (.slice ad l c) := by simp [Yl, execOp, h]
theorem asS {ad : Option Addr} {l c : Nat} (h : ev n f x = .slice ad l c) : Yl P n f ⟨d, .assign x, ty, pos, af, gd⟩ w (.slice ad l c) := by simp [Yl, execOp, h]
theorem mvP {ad : Option Addr} (h : ev n f x = .pointer ad) : Yl P n f ⟨d, .move x, ty, pos, af, gd⟩ w (.pointer ad) := by simp [Yl, execOp, h]
theorem asP {ad : Option Addr} (h : ev n f x = .pointer ad) : Yl P n f ⟨d, .assign x, ty, pos, af, gd⟩ w (.pointer ad) := by simp [Yl, execOp, h]
theorem mvA {cs : Array Value} (h : ev n f x = .agg cs) : Yl P n f ⟨d, .move x, ty, pos, af, gd⟩ w (.agg cs) := by simp [Yl, execOp, h]
theorem asA {cs : Array Value} (h : ev n f x = .agg cs) : Yl P n f ⟨d, .assign x, ty, pos, af, gd⟩ w (.agg cs) := by simp [Yl, execOp, h]
theorem mvT {cs : Array Value} (h : ev n f x = .tuple cs) : Yl P n f ⟨d, .move x, ty, pos, af, gd⟩ w (.tuple cs) := by simp [Yl, execOp, h]
theorem asT {cs : Array Value} (h : ev n f x = .tuple cs) : Yl P n f ⟨d, .assign x, ty, pos, af, gd⟩ w (.tuple cs) := by simp [Yl, execOp, h]
theorem mvM {r : Option Nat} (h : ev n f x = .map r) : Yl P n f ⟨d, .move x, ty, pos, af, gd⟩ w (.map r) := by simp [Yl, execOp, h]
theorem asM {r : Option Nat} (h : ev n f x = .map r) : Yl P n f ⟨d, .assign x, ty, pos, af, gd⟩ w (.map r) := by simp [Yl, execOp, h]
theorem mvF {fn : Fn} {c1 c2 : Array Value} (h : ev n f x = .func fn c1 c2) : Yl P n f ⟨d, .move x, ty, pos, af, gd⟩ w (.func fn c1 c2) := by simp [Yl, execOp, h]
theorem asF {fn : Fn} {c1 c2 : Array Value} (h : ev n f x = .func fn c1 c2) : Yl P n f ⟨d, .assign x, ty, pos, af, gd⟩ w (.func fn c1 c2) := by simp [Yl, execOp, h]
theorem mvX {s : ByteArray} (h : ev n f x = .string s) : Yl P n f ⟨d, .move x, ty, pos, af, gd⟩ w (.string s) := by simp [Yl, execOp, h]
theorem asX {s : ByteArray} (h : ev n f x = .string s) : Yl P n f ⟨d, .assign x, ty, pos, af, gd⟩ w (.string s) := by simp [Yl, execOp, h]
theorem mvV (h : ev n f x = v) : Yl P n f ⟨d, .move x, ty, pos, af, gd⟩ w v := by simp [Yl, execOp, h]
theorem asV (h : ev n f x = v) : Yl P n f ⟨d, .assign x, ty, pos, af, gd⟩ w v := by simp [Yl, execOp, h]
theorem y_pickT (h : ev n f x = .bool p) (hp : p = true) (hv : ev n f y = v) : Yl P n f ⟨d, .pick x y z, ty, pos, af, gd⟩ w v := by simp [Yl, execOp, h, asBool, hp, hv]
theorem y_pickF (h : ev n f x = .bool p) (hp : p = false) (hv : ev n f z = v) : Yl P n f ⟨d, .pick x y z, ty, pos, af, gd⟩ w v := by simp [Yl, execOp, h, asBool, hp, hv]
/-- 'a && b', 'a || b' where both are known as Bools. -/
theorem y_pickB {r : Bool} (h : ev n f x = .bool p) (h1 : ev n f y = .bool q) (h2 : ev n f z = .bool r) : Yl P n f ⟨d, .pick x y z, ty, pos, af, gd⟩ w (.bool (cond p q r)) := by
  cases p <;> simp [Yl, execOp, h, h1, h2, asBool]
theorem y_nil {ad : Addr} (h : ev n f x = .pointer (some ad)) : Yl P n f ⟨d, .nilCheck x, ty, pos, af, gd⟩ w (.pointer (some ad)) := by simp [Yl, execOp, h]
theorem y_not (h : ev n f x = .bool p) : Yl P n f ⟨d, .unOp .not T x, ty, pos, af, gd⟩ w (.bool (!p)) := by simp [Yl, execOp, h, Op.unary]
theorem y_neg (h : ev n f x = .int .i64 a) (hr : -9223372036854775807 ≤ a ∧ a ≤ 9223372036854775807) : Yl P n f ⟨d, .unOp .neg T x, ty, pos, af, gd⟩ w (.int .i64 (-a)) := by
  simp [Yl, execOp, h, Op.unary, Op.intArith]; exact IntWalk.i64_in _ (by omega)

theorem y_addW (hx : ev n f x = .int k a) (hy : ev n f y = .int k b) : Yl P n f ⟨d, .binOp .add T x y T', ty, pos, af, gd⟩ w (.int k (k.wrap (a + b))) := by simp [Yl, execOp, hx, hy, go_sem]
theorem y_subW (hx : ev n f x = .int k a) (hy : ev n f y = .int k b) : Yl P n f ⟨d, .binOp .sub T x y T', ty, pos, af, gd⟩ w (.int k (k.wrap (a - b))) := by simp [Yl, execOp, hx, hy, go_sem]
theorem y_mulW (hx : ev n f x = .int k a) (hy : ev n f y = .int k b) : Yl P n f ⟨d, .binOp .mul T x y T', ty, pos, af, gd⟩ w (.int k (k.wrap (a * b))) := by simp [Yl, execOp, hx, hy, go_sem]
theorem y_add (hx : ev n f x = .int .i64 a) (hy : ev n f y = .int .i64 b) (h : -9223372036854775808 ≤ a + b ∧ a + b ≤ 9223372036854775807) : Yl P n f ⟨d, .binOp .add T x y T', ty, pos, af, gd⟩ w (.int .i64 (a + b)) := by
  rw [← IntWalk.i64_in _ h]; exact y_addW hx hy
theorem y_sub (hx : ev n f x = .int .i64 a) (hy : ev n f y = .int .i64 b) (h : -9223372036854775808 ≤ a - b ∧ a - b ≤ 9223372036854775807) : Yl P n f ⟨d, .binOp .sub T x y T', ty, pos, af, gd⟩ w (.int .i64 (a - b)) := by
  rw [← IntWalk.i64_in _ h]; exact y_subW hx hy
theorem y_mul (hx : ev n f x = .int .i64 a) (hy : ev n f y = .int .i64 b) (h : -9223372036854775808 ≤ a * b ∧ a * b ≤ 9223372036854775807) : Yl P n f ⟨d, .binOp .mul T x y T', ty, pos, af, gd⟩ w (.int .i64 (a * b)) := by
  rw [← IntWalk.i64_in _ h]; exact y_mulW hx hy
theorem y_rem (hx : ev n f x = .int k a) (hy : ev n f y = .int k b) (h : b ≠ 0) : Yl P n f ⟨d, .binOp .rem T x y T', ty, pos, af, gd⟩ w (.int k (a.tmod b)) := by simp [Yl, execOp, hx, hy, h, go_sem]
theorem y_quo (hx : ev n f x = .int .i64 a) (hy : ev n f y = .int .i64 b) (h : 1 ≤ b) (hr : -9223372036854775808 ≤ a ∧ a ≤ 9223372036854775807) : Yl P n f ⟨d, .binOp .quo T x y T', ty, pos, af, gd⟩ w (.int .i64 (a.tdiv b)) := by
  have h0 : b ≠ 0 := by omega
  simp [Yl, execOp, hx, hy, h0, go_sem]; exact IntWalk.i64_quo' a b (by omega)
theorem y_lss (hx : ev n f x = .int k a) (hy : ev n f y = .int k b) : Yl P n f ⟨d, .binOp .lss T x y T', ty, pos, af, gd⟩ w (.bool (decide (a < b))) := by simp [Yl, execOp, hx, hy, go_sem]
theorem y_leq (hx : ev n f x = .int k a) (hy : ev n f y = .int k b) : Yl P n f ⟨d, .binOp .leq T x y T', ty, pos, af, gd⟩ w (.bool (decide (a ≤ b))) := by simp [Yl, execOp, hx, hy, go_sem]
theorem y_gtr (hx : ev n f x = .int k a) (hy : ev n f y = .int k b) : Yl P n f ⟨d, .binOp .gtr T x y T', ty, pos, af, gd⟩ w (.bool (decide (b < a))) := by simp [Yl, execOp, hx, hy, go_sem]
theorem y_geq (hx : ev n f x = .int k a) (hy : ev n f y = .int k b) : Yl P n f ⟨d, .binOp .geq T x y T', ty, pos, af, gd⟩ w (.bool (decide (b ≤ a))) := by simp [Yl, execOp, hx, hy, go_sem]
theorem y_eql (hx : ev n f x = .int k a) (hy : ev n f y = .int k b) : Yl P n f ⟨d, .binOp .eql T x y T', ty, pos, af, gd⟩ w (.bool (decide (a = b))) := by
  simp [Yl, execOp, hx, hy, go_sem]; rw [Bool.eq_iff_iff]; simp
theorem y_neq (hx : ev n f x = .int k a) (hy : ev n f y = .int k b) : Yl P n f ⟨d, .binOp .neq T x y T', ty, pos, af, gd⟩ w (.bool (decide (a ≠ b))) := by
  simp [Yl, execOp, hx, hy, go_sem]; rw [Bool.eq_iff_iff]; simp
theorem y_eqlB (hx : ev n f x = .bool p) (hy : ev n f y = .bool q) (hT : P.underlying T = some .bool) : Yl P n f ⟨d, .binOp .eql T x y T', ty, pos, af, gd⟩ w (.bool (p == q)) := by
  have h1 : eqGuard .eql T x y (.bool p) (.bool q) = pure () := eqGuard_at_bool _ _ _ _ _ _
  have h2 : (binOp .eql T (.bool p) (.bool q)).run P w = .ok (.bool (p == q)) w := by
    show (do pure (Value.bool (← Op.equal T (.bool p) (.bool q))) : Sem Value).run P w = _
    rw [Sem.run_bind, show (Op.equal T (.bool p) (.bool q)).run P w = .ok (p == q) w from by
      show (Op.equalIn (9999 + 1) T (.bool p) (.bool q)).run P w = _
      unfold Op.equalIn
      simp [run_underlying hT]]
    simp
  simp [Yl, execOp, hx, hy, h1, h2]
theorem y_neqB (hx : ev n f x = .bool p) (hy : ev n f y = .bool q) (hT : P.underlying T = some .bool) : Yl P n f ⟨d, .binOp .neq T x y T', ty, pos, af, gd⟩ w (.bool (p != q)) := by
  have h1 : eqGuard .neq T x y (.bool p) (.bool q) = pure () := eqGuard_at_bool _ _ _ _ _ _
  have h2 : (binOp .neq T (.bool p) (.bool q)).run P w = .ok (.bool (p != q)) w := by
    show (do pure (Value.bool (!(← Op.equal T (.bool p) (.bool q)))) : Sem Value).run P w = _
    rw [Sem.run_bind, show (Op.equal T (.bool p) (.bool q)).run P w = .ok (p == q) w from by
      show (Op.equalIn (9999 + 1) T (.bool p) (.bool q)).run P w = _
      unfold Op.equalIn
      simp [run_underlying hT]]
    simp [bne]
  simp [Yl, execOp, hx, hy, h1, h2]
theorem y_conv {k' : IntKind} (hx : ev n f x = .int k a) (hs : (P.underlying T).isSome = true) (hd : P.underlying T' = some (.int k')) : Yl P n f ⟨d, .convert T T' x, ty, pos, af, gd⟩ w (.int k' (k'.wrap a)) := by
  have hk : P.intKind T' = k' := by simp [Program.intKind, hd]
  have hd' : P.underlying T' = some (.int (P.intKind T')) := by rw [hk]; exact hd
  have := run_convert_int (P := P) w T T' k a hs hd'
  rw [hk] at this
  simp [Yl, execOp, hx, this]
theorem y_ext {vs : Array Value} {i : Nat} (hx : ev n f x = .tuple vs) (hi : vs[i]? = some v) : Yl P n f ⟨d, .extract x i, ty, pos, af, gd⟩ w v := by simp [Yl, execOp, hx, Instr.extract, hi]
theorem y_len {E : TypeId} {ad : Option Addr} {l c : Nat} (hT : P.underlying T = some (.slice E)) (hx : ev n f x = .slice ad l c) : Yl P n f ⟨d, .call ⟨.builtin .len, #[x], #[T]⟩, ty, pos, af, gd⟩ w (.int .i64 (l : Int)) := by
  have hE : P.elem T = E := by simp [Program.elem, hT]
  have := run_len_slice (P := P) w T ty ad l c (by rw [hE]; exact hT)
  simp [Yl, execOp, resolve, invoke, builtin, hx, this, goInt]
theorem y_min (hx : ev n f x = .int k a) (hy : ev n f y = .int k b) {Ts : Array TypeId} : Yl P n f ⟨d, .call ⟨.builtin .min, #[x, y], Ts⟩, ty, pos, af, gd⟩ w (.int k (min a b)) := by
  have e : (if b < a then b else a) = min a b := by omega
  simp [Yl, execOp, resolve, invoke, builtin, hx, hy, Builtin.min_, Builtin.min2, e]
theorem y_max (hx : ev n f x = .int k a) (hy : ev n f y = .int k b) {Ts : Array TypeId} : Yl P n f ⟨d, .call ⟨.builtin .max, #[x, y], Ts⟩, ty, pos, af, gd⟩ w (.int k (max a b)) := by
  simp [Yl, execOp, resolve, invoke, builtin, hx, hy, Builtin.max_, Builtin.max2]; omega

/-- A struct put together. -/
theorem y_build {ps : Array (Nat × Operand)} {qs : List (Nat × Value)} (h : (Instr.build T qs.toArray).run P w = .ok v w) (hq : (ps.toList.map fun p => (p.1, ev n f p.2)) = qs) : Yl P n f ⟨d, .build T ps, ty, pos, af, gd⟩ w v := by
  have e : (ps.map fun (i, x) => (i, ev n f x)) = qs.toArray := by
    rw [← hq, ← Array.toList_map, Array.toArray_toList]
  simp [Yl, execOp, e, h]

/-- The layout of a struct type, of a slice type. -/
def FieldOf (P : Program) (S : TypeId) (i off : Nat) : Prop := ∀ (b o : Nat) (w : World), (Instr.fieldAt S (.pointer (some ⟨b, o, none⟩)) i).run P w = .ok (.pointer (some ⟨b, o + off, none⟩)) w
def SzOf (P : Program) (T : TypeId) (k : Nat) : Prop := ∀ w, (sizeOf T).run P w = .ok k w
def NotAgg (P : Program) (T : TypeId) : Prop := ∀ w, (isAgg T).run P w = .ok false w
def AggOf (P : Program) (T : TypeId) (k : Nat) : Prop := ∀ w, (isAgg T).run P w = .ok true w ∧ (sizeOf T).run P w = .ok k w
structure SliceOf (P : Program) (T E : TypeId) (sz : Nat) : Prop where
  und : P.underlying T = some (.slice E)
  size : SzOf P E sz

theorem y_fld {S i off bl o : Nat} (h : FieldOf P S i off) (hx : ev n f x = .pointer (some ⟨bl, o, none⟩)) : Yl P n f ⟨d, .fieldAddr S x i, ty, pos, af, gd⟩ w (.pointer (some ⟨bl, o + off, none⟩)) := by
  simp [Yl, execOp, hx, h bl o w]

def blk : Option Addr → Nat | some a => a.block | none => 0
def off : Option Addr → Nat | some a => a.off | none => 0
/-- A slice's address leads to a plain place, unless the slice is empty. -/
def plainA (ad : Option Addr) : Prop := ∃ b o, ad = some ⟨b, o, none⟩

theorem y_idx {E : TypeId} {sz : Nat} {ad : Option Addr} {l c : Nat} {i : Int} (h : SliceOf P T E sz) (hx : ev n f x = .slice ad l c) (hy : ev n f y = .int k i) (hp : plainA ad) (h0 : 0 ≤ i) (h1 : i < l) :
    Yl P n f ⟨d, .indexAddr T x y, ty, pos, af, gd⟩ w (.pointer (some ⟨blk ad, off ad + i.toNat * sz, none⟩)) := by
  obtain ⟨b, o, rfl⟩ := hp
  have hE : P.elem T = E := by simp [Program.elem, h.und]
  have := run_indexAt_slice (P := P) w T ⟨b, o, none⟩ l c k i (by rw [hE]; exact h.und)
  rw [if_pos ⟨h0, h1⟩, hE, h.size w] at this
  simp [Yl, execOp, hx, hy, this, Addr.add_lit, blk, off, Result.andThen]

theorem y_ld {ad : Addr} (h : NotAgg P T) (hx : ev n f x = .pointer (some ad)) (hc : w.cell? ad = some v) : Yl P n f ⟨d, .load T x, ty, pos, af, gd⟩ w v := by
  have h' := h w
  simp [Yl, execOp, hx, Instr.loadAt, Instr.sureAddr, loadVar, h', load, Sem.run, hc]
theorem y_ldN {bl o : Nat} {cs : List Value} (h : AggOf P T cs.length) (hx : ev n f x = .pointer (some ⟨bl, o, none⟩)) (hc : ∀ j u, cs[j]? = some u → w.cell? ⟨bl, o + j, none⟩ = some u) :
    Yl P n f ⟨d, .load T x, ty, pos, af, gd⟩ w (.agg cs.toArray) := by
  obtain ⟨h1, h2⟩ := h w
  have := run_loadCells_list (P := P) w ⟨bl, o, none⟩ cs (fun j u hu => by rw [Addr.add_lit]; exact hc j u hu)
  simp [Yl, execOp, hx, Instr.loadAt, Instr.sureAddr, loadVar, h1, h2, this]
end

/-! ### Steps -/

/-- The walk's goals behind a name that nothing unfolds. -/
structure WL (P : Program) (ops : Array Oper) (Q : Exit → Act → World → Prop) (l : List Oper) (a : Act) (w : World) : Prop where
  out : wpList P ops Q l a w
structure WT (P : Program) (ops : Array Oper) (G : World → Prop) (ch : Nat → Bool) (Q : Act → World → Prop) (l : List Oper) (i : Nat) (a : Act) (w : World) : Prop where
  out : wpT P ops G ch Q l i a w

section
variable {P : Program} {Q : Exit → Act → World → Prop} {a : Act} {w : World} {id : Nat}
/-- A region that keeps to the text's order. -/
theorem rg {l : List Oper} (h : WL P l.toArray Q l a w) : (Code.region id l.toArray false).wp P Q a w := wp_region_lit h.out
theorem rg_end {ops : Array Oper} (h : Q .normal a w) : WL P ops Q [] a w := ⟨h⟩
end

def dstAt : List Oper → Nat → Option Tmp
  | [], _ => none
  | o :: _, 0 => o.dst
  | _ :: r, k + 1 => dstAt r k

theorem dstAt_eq (ops : Array Oper) (j : Nat) : (ops[j]?).bind (·.dst) = dstAt ops.toList j := by
  rw [← Array.getElem?_toList]
  generalize ops.toList = l
  induction l generalizing j with
  | nil => simp [dstAt]
  | cons o r ih => cases j <;> simp [dstAt, ih]

theorem yielded_act {ops : Array Oper} {n : Nat} {f : Nat → Value} {j t : Nat} {p : Bool} (hj : dstAt ops.toList j = some t) (hv : ev n f (.tmp t) = .bool p) : yielded ops (act n f).tmps j = some p := by
  rw [← dstAt_eq] at hj
  simp only [ev] at hv
  have ht : t < n := by
    cases hb : Nat.blt t n with
    | true => simpa [Nat.blt_eq] using hb
    | false => rw [hb] at hv; simp [undef] at hv
  have hb : Nat.blt t n = true := by simpa [Nat.blt_eq] using ht
  rw [hb] at hv
  simp only [cond_true] at hv
  simp [yielded, hj, act, Array.getElem?_ofFn, ht, hv]

section
variable {P : Program} {ops : Array Oper} {Q : Exit → Act → World → Prop} {rest : List Oper} {n : Nat} {L : List (Nat × Value)} {B : Nat → Value} {w : World}
  {op : Op} {ty : TypeId} {pos : String} {af : Array Edge} {d : Nat} {v : Value}

/-- A plain step. -/
theorem st (hy : Yl P n (lk L B) ⟨some d, op, ty, pos, af, none⟩ w v) (h : WL P ops Q rest (act n (lk ((d, v) :: L) B)) w) :
    WL P ops Q (⟨some d, op, ty, pos, af, none⟩ :: rest) (act n (lk L B)) w := by
  refine ⟨wpList_plain rfl fun K hK => ?_⟩
  unfold Oper.wp
  rw [evals_act, hy]
  simp only [Oper.upon, act_put]
  exact hK _ _ h.out

/-- A guarded step whose guard says yes. -/
theorem stg {j t : Nat} {want p : Bool} (hj : dstAt ops.toList j = some t) (hv : ev n (lk L B) (.tmp t) = .bool p) (hp : p = want)
    (hy : Yl P n (lk L B) ⟨some d, op, ty, pos, af, some (j, want)⟩ w v) (h : WL P ops Q rest (act n (lk ((d, v) :: L) B)) w) :
    WL P ops Q (⟨some d, op, ty, pos, af, some (j, want)⟩ :: rest) (act n (lk L B)) w := by
  refine ⟨wpList_step fun K hK => ?_⟩
  have hw : Region.wanted (⟨some d, op, ty, pos, af, some (j, want)⟩ : Oper) (yielded ops (act n (lk L B)).tmps) = true := by
    simp [Region.wanted, yielded_act hj hv, hp]
  rw [if_pos hw]
  unfold Oper.wp
  rw [evals_act, hy]
  simp only [Oper.upon, act_put]
  exact hK _ _ h.out

/-- A guarded step whose guard says no. -/
theorem sts {j t : Nat} {want p : Bool} (hj : dstAt ops.toList j = some t) (hv : ev n (lk L B) (.tmp t) = .bool p) (hp : p = !want)
    (h : WL P ops Q rest (act n (lk ((d, undef) :: L) B)) w) :
    WL P ops Q (⟨some d, op, ty, pos, af, some (j, want)⟩ :: rest) (act n (lk L B)) w := by
  have hw : Region.wanted (⟨some d, op, ty, pos, af, some (j, want)⟩ : Oper) (yielded ops (act n (lk L B)).tmps) = false := by
    simp [Region.wanted, yielded_act hj hv, hp]
  refine ⟨wpList_skip hw ?_⟩
  rw [act_put]; exact h.out

/-- A guard whose own operation was passed over: passed over too. -/
theorem yielded_undef {ops : Array Oper} {n : Nat} {f : Nat → Value} {j t : Nat} (hj : dstAt ops.toList j = some t) (hv : ev n f (.tmp t) = undef) : yielded ops (act n f).tmps j = none := by
  rw [← dstAt_eq] at hj
  simp only [ev] at hv
  by_cases ht : t < n
  · have hb : Nat.blt t n = true := by simpa [Nat.blt_eq] using ht
    rw [hb] at hv
    simp only [cond_true] at hv
    simp [yielded, hj, act, Array.getElem?_ofFn, ht, hv, undef]
  · simp [yielded, hj, act, Array.getElem?_ofFn, ht]

theorem stu {j t : Nat} {want : Bool} (hj : dstAt ops.toList j = some t) (hv : ev n (lk L B) (.tmp t) = undef)
    (h : WL P ops Q rest (act n (lk ((d, undef) :: L) B)) w) :
    WL P ops Q (⟨some d, op, ty, pos, af, some (j, want)⟩ :: rest) (act n (lk L B)) w := by
  have hw : Region.wanted (⟨some d, op, ty, pos, af, some (j, want)⟩ : Oper) (yielded ops (act n (lk L B)).tmps) = false := by
    simp [Region.wanted, yielded_undef hj hv]
  refine ⟨wpList_skip hw ?_⟩
  rw [act_put]; exact h.out

/-- Part on a Bool that a slot holds. -/
theorem gspL {l : List Oper} (t : Nat) {p : Bool} (_ : ev n (lk L B) (.tmp t) = .bool p) (ht : p = true → WL P ops Q l (act n (lk L B)) w) (hf : p = false → WL P ops Q l (act n (lk L B)) w) : WL P ops Q l (act n (lk L B)) w := by
  cases p
  · exact hf rfl
  · exact ht rfl
theorem gspT {l : List Oper} {G : World → Prop} {ch : Nat → Bool} {QT : Act → World → Prop} {i : Nat} (t : Nat) {p : Bool} (_ : ev n (lk L B) (.tmp t) = .bool p) (ht : p = true → WT P ops G ch QT l i (act n (lk L B)) w) (hf : p = false → WT P ops G ch QT l i (act n (lk L B)) w) : WT P ops G ch QT l i (act n (lk L B)) w := by
  cases p
  · exact hf rfl
  · exact ht rfl

theorem run_call {k : FuncId} {args : Array Operand} {Ts : Array TypeId} {f : Nat → Value} {dd : Option Tmp} {g : Option (Nat × Bool)} (hc : Callable P k) :
    (execOp (ev n f) ⟨dd, .call ⟨.value (.func k), args, Ts⟩, ty, pos, af, g⟩).run P w = .ok (.enter k (args.map (ev n f))) w := by
  have := hc.ex
  simp [execOp, resolve, ev, Deferred.ofValue, invoke, this]

/-- A call of a Go function, by its contract. -/
theorem sc {k : FuncId} {args : Array Operand} {Ts : Array TypeId} {vs : List Value} {R : Value → World → Prop} (hc : Callable P k) (hR : Cal P k vs w R) (ha : args.toList.map (ev n (lk L B)) = vs)
    (h : ∀ v w', R v w' → WL P ops Q rest (act n (lk ((d, v) :: L) B)) w') :
    WL P ops Q (⟨some d, .call ⟨.value (.func k), args, Ts⟩, ty, pos, af, none⟩ :: rest) (act n (lk L B)) w := by
  refine ⟨wpList_plain rfl fun K hK => ?_⟩
  unfold Oper.wp
  rw [evals_act, run_call hc]
  have e : args.map (ev n (lk L B)) = vs.toArray := by rw [← ha, ← Array.toList_map, Array.toArray_toList]
  simp only [Oper.upon, e]
  refine Calls.mono hR ?_
  rintro e w' ⟨v, rfl, hr⟩
  simp only [act_put]
  exact hK _ _ (h v w' hr).out

theorem scg {j t : Nat} {want p : Bool} {k : FuncId} {args : Array Operand} {Ts : Array TypeId} {vs : List Value} {R : Value → World → Prop} (hj : dstAt ops.toList j = some t) (hv : ev n (lk L B) (.tmp t) = .bool p) (hp : p = want)
    (hc : Callable P k) (hR : Cal P k vs w R) (ha : args.toList.map (ev n (lk L B)) = vs)
    (h : ∀ v w', R v w' → WL P ops Q rest (act n (lk ((d, v) :: L) B)) w') :
    WL P ops Q (⟨some d, .call ⟨.value (.func k), args, Ts⟩, ty, pos, af, some (j, want)⟩ :: rest) (act n (lk L B)) w := by
  refine ⟨wpList_step fun K hK => ?_⟩
  have hw : Region.wanted (⟨some d, .call ⟨.value (.func k), args, Ts⟩, ty, pos, af, some (j, want)⟩ : Oper) (yielded ops (act n (lk L B)).tmps) = true := by
    simp [Region.wanted, yielded_act hj hv, hp]
  rw [if_pos hw]
  unfold Oper.wp
  rw [evals_act, run_call hc]
  have e : args.map (ev n (lk L B)) = vs.toArray := by rw [← ha, ← Array.toList_map, Array.toArray_toList]
  simp only [Oper.upon, e]
  refine Calls.mono hR ?_
  rintro e w' ⟨v, rfl, hr⟩
  simp only [act_put]
  exact hK _ _ (h v w' hr).out
end

/-! ### Steps of a region that draws its order -/

section
variable {P : Program} {ops : Array Oper} {G : World → Prop} {ch : Nat → Bool} {Q : Act → World → Prop} {rest : List Oper} {n i : Nat} {L : List (Nat × Value)} {B : Nat → Value} {w : World}
  {op : Op} {ty : TypeId} {pos : String} {af : Array Edge} {d : Nat} {v : Value}

theorem t_end (h : Q (act n (lk L B)) w) : WT P ops G ch Q [] i (act n (lk L B)) w := ⟨h⟩

theorem tn (hi : ch i = false) (hy : ∀ w, G w → Yl P n (lk L B) ⟨some d, op, ty, pos, af, none⟩ w v) (h : WT P ops G ch Q rest (i + 1) (act n (lk ((d, v) :: L) B)) w) :
    WT P ops G ch Q (⟨some d, op, ty, pos, af, none⟩ :: rest) i (act n (lk L B)) w := by
  refine ⟨?_⟩
  unfold wpT oStep1
  rw [if_pos (by simp [Region.wanted]), hi]
  exact ⟨v, fun w' hw' => by rw [evals_act]; exact hy w' hw', by rw [act_put]; exact h.out⟩

theorem tng {j t : Nat} {want p : Bool} (hi : ch i = false) (hj : dstAt ops.toList j = some t) (hv : ev n (lk L B) (.tmp t) = .bool p) (hp : p = want)
    (hy : ∀ w, G w → Yl P n (lk L B) ⟨some d, op, ty, pos, af, some (j, want)⟩ w v) (h : WT P ops G ch Q rest (i + 1) (act n (lk ((d, v) :: L) B)) w) :
    WT P ops G ch Q (⟨some d, op, ty, pos, af, some (j, want)⟩ :: rest) i (act n (lk L B)) w := by
  refine ⟨?_⟩
  unfold wpT oStep1
  rw [if_pos (by simp [Region.wanted, yielded_act hj hv, hp]), hi]
  exact ⟨v, fun w' hw' => by rw [evals_act]; exact hy w' hw', by rw [act_put]; exact h.out⟩

theorem tns {j t : Nat} {want p : Bool} (hj : dstAt ops.toList j = some t) (hv : ev n (lk L B) (.tmp t) = .bool p) (hp : p = !want)
    (h : WT P ops G ch Q rest (i + 1) (act n (lk ((d, undef) :: L) B)) w) :
    WT P ops G ch Q (⟨some d, op, ty, pos, af, some (j, want)⟩ :: rest) i (act n (lk L B)) w := by
  refine ⟨?_⟩
  unfold wpT oStep1
  rw [if_neg (by simp [Region.wanted, yielded_act hj hv, hp])]
  rw [act_put]; exact h.out

theorem tnu {j t : Nat} {want : Bool} (hj : dstAt ops.toList j = some t) (hv : ev n (lk L B) (.tmp t) = undef)
    (h : WT P ops G ch Q rest (i + 1) (act n (lk ((d, undef) :: L) B)) w) :
    WT P ops G ch Q (⟨some d, op, ty, pos, af, some (j, want)⟩ :: rest) i (act n (lk L B)) w := by
  refine ⟨?_⟩
  unfold wpT oStep1
  rw [if_neg (by simp [Region.wanted, yielded_undef hj hv])]
  rw [act_put]; exact h.out

theorem tc {k : FuncId} {args : Array Operand} {Ts : Array TypeId} {vs : List Value} {R : Value → World → Prop} (hi : ch i = true) (hc : Callable P k) (hR : Cal P k vs w R) (ha : args.toList.map (ev n (lk L B)) = vs)
    (h : ∀ v w', R v w' → G w' ∧ WT P ops G ch Q rest (i + 1) (act n (lk ((d, v) :: L) B)) w') :
    WT P ops G ch Q (⟨some d, .call ⟨.value (.func k), args, Ts⟩, ty, pos, af, none⟩ :: rest) i (act n (lk L B)) w := by
  refine ⟨?_⟩
  unfold wpT oStep1
  rw [if_pos (by simp [Region.wanted]), hi, if_pos rfl]
  unfold chn
  rw [evals_act, run_call hc]
  have e : args.map (ev n (lk L B)) = vs.toArray := by rw [← ha, ← Array.toList_map, Array.toArray_toList]
  simp only [chnUpon, e]
  refine Calls.mono hR ?_
  rintro e w' ⟨v, rfl, hr⟩
  exact ⟨v, rfl, by rw [act_put]; exact ⟨(h v w' hr).1, (h v w' hr).2.out⟩⟩

theorem tcg {j t : Nat} {want p : Bool} {k : FuncId} {args : Array Operand} {Ts : Array TypeId} {vs : List Value} {R : Value → World → Prop} (hi : ch i = true) (hj : dstAt ops.toList j = some t) (hv : ev n (lk L B) (.tmp t) = .bool p) (hp : p = want)
    (hc : Callable P k) (hR : Cal P k vs w R) (ha : args.toList.map (ev n (lk L B)) = vs)
    (h : ∀ v w', R v w' → G w' ∧ WT P ops G ch Q rest (i + 1) (act n (lk ((d, v) :: L) B)) w') :
    WT P ops G ch Q (⟨some d, .call ⟨.value (.func k), args, Ts⟩, ty, pos, af, some (j, want)⟩ :: rest) i (act n (lk L B)) w := by
  refine ⟨?_⟩
  unfold wpT oStep1
  rw [if_pos (by simp [Region.wanted, yielded_act hj hv, hp]), hi, if_pos rfl]
  unfold chn
  rw [evals_act, run_call hc]
  have e : args.map (ev n (lk L B)) = vs.toArray := by rw [← ha, ← Array.toList_map, Array.toArray_toList]
  simp only [chnUpon, e]
  refine Calls.mono hR ?_
  rintro e w' ⟨v, rfl, hr⟩
  exact ⟨v, rfl, by rw [act_put]; exact ⟨(h v w' hr).1, (h v w' hr).2.out⟩⟩
end
end Go.Wk
