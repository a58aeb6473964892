/-
  Slices of slices, appends out of a slice that may be nil, structs stored into elements, local arrays.
-/
import Derived.Test.YtclligkngjhihaaWkF
import Derived.Laws.Pointers
namespace Go.Wk
open Go.RowKit
set_option linter.unusedVariables false
set_option linter.unusedSimpArgs false

section
variable {α : Type} {enc : α → List Value} {sz lo hi : Nat} {w : World} {ad : Option Addr} {l : List α}
theorem Sl.take (h : Sl enc sz lo hi w ad l) (k : Nat) : Sl enc sz lo hi w ad (l.take k) := by
  refine ⟨fun hne => h.plain (fun e => hne (by rw [e]; simp)), fun i x hx => h.cell i x ?_⟩
  have hi : i < k := by
    rcases Nat.lt_or_ge i (l.take k).length with h | h
    · rw [List.length_take] at h; omega
    · rw [List.getElem?_eq_none h] at hx; cases hx
  rwa [List.getElem?_take_of_lt hi] at hx
/-- Where 's[k:]' begins, for a slice of capacity 'c'. -/
def adv (ad : Option Addr) (k c sz : Nat) : Option Addr := if c = k then ad else ad.map (·.add (k * sz))
theorem Sl.drop (h : Sl enc sz lo hi w ad l) {c : Nat} (hc : l.length ≤ c) (k : Nat) : Sl enc sz lo hi w (adv ad k c sz) (l.drop k) := by
  by_cases hk : l.drop k = []
  · rw [hk]; exact ⟨fun h => absurd rfl h, fun i x hx => by simp at hx⟩
  · have hlt : k < l.length := by
      rcases Nat.lt_or_ge k l.length with h | h
      · exact h
      · exact absurd (List.drop_eq_nil_of_le h) hk
    have hne : l ≠ [] := by intro e; subst e; simp at hlt
    obtain ⟨⟨b, o, rfl⟩, h1, h2⟩ := h.plain hne
    have e : adv (some ⟨b, o, none⟩) k c sz = some ⟨b, o + k * sz, none⟩ := by
      unfold adv; rw [if_neg (by omega)]; simp [Addr.add_lit]
    rw [e]
    refine ⟨fun _ => ⟨⟨_, _, rfl⟩, h1, h2⟩, fun i x hx j y hy => ?_⟩
    rw [List.getElem?_drop] at hx
    have := h.cell _ x hx j y hy
    simp only [blk, off] at this ⊢
    rw [show o + k * sz + i * sz + j = o + (k + i) * sz + j by rw [Nat.add_mul]; omega]
    exact this
end

theorem td0 {P : Program} {ops : Array Oper} {G : World → Prop} {ch : Nat → Bool} {QT : Act → World → Prop} {rest : List Oper} {n i : Nat} {L : List (Nat × Value)} {B : Nat → Value} {w : World} {op : Op} {ty : TypeId} {pos : String} {af : Array Edge}
    (hi : ch i = true) (h : DoK P n (lk L B) ⟨none, op, ty, pos, af, none⟩ w (fun _ w' => G w' ∧ WT P ops G ch QT rest (i + 1) (act n (lk L B)) w')) :
    WT P ops G ch QT (⟨none, op, ty, pos, af, none⟩ :: rest) i (act n (lk L B)) w := by
  obtain ⟨v, w', hd, hk⟩ := h
  refine ⟨?_⟩
  unfold wpT oStep1
  rw [if_pos (by simp [Region.wanted]), hi, if_pos rfl]
  unfold chn
  rw [evals_act]
  rcases hd with hd | ⟨rfl, hd⟩ <;> rw [hd] <;> simp only [chnUpon, Act.put] <;> exact ⟨hk.1, hk.2.out⟩

/-- A fact that omega does not see. -/
structure Hid (p : Prop) : Prop where
  out : p
theorem Ow.blt {α : Type} {E : TypeId} {enc : α → List Value} {sz lo hi : Nat} {w : World} {ad : Option Addr} {c : Nat} {l : List α} (h : Ow E enc sz lo hi w ad c l) (h0 : 0 < w.heap.size) : blk ad < w.heap.size := by
  rcases h.rng with h | h <;> omega
theorem Ow.acc {α : Type} {E : TypeId} {enc : α → List Value} {sz lo hi : Nat} {w : World} {ad : Option Addr} {c : Nat} {l : List α} (h : Ow E enc sz lo hi w ad c l) : hi1 ad ≤ blk ad ∨ (lo ≤ blk ad ∧ hi1 ad ≤ hi) := by
  rcases h.rng with h | h <;> omega

section
variable {P : Program} {n : Nat} {f : Nat → Value} {d : Option Tmp} {ty : TypeId} {pos : String} {af : Array Edge} {gd : Option (Nat × Bool)} {w : World} {x y z : Operand} {T T' E : TypeId} {v : Value} {a b : Int} {k k' : IntKind} {K : Value → World → Prop} {sz : Nat}

theorem add0 (ad : Option Addr) : ad.map (fun a => a.add 0) = ad := by cases ad <;> simp [Addr.add_zero']
/-- 's[:b]'. -/
theorem y_slh {ad : Option Addr} {m c : Nat} (h : SliceOf P T E sz) (hx : ev n f x = .slice ad m c) (hy : ev n f y = .int k b) (h0 : 0 ≤ b) (h1 : b ≤ c) : Yl P n f ⟨d, .slice T x none (some y) none, ty, pos, af, gd⟩ w (.slice ad b.toNat c) := by
  have hE : P.elem T = E := by simp [Program.elem, h.und]
  have hu : P.underlying T = some (.slice (P.elem T)) := by rw [hE]; exact h.und
  have hr := run_slice_h (P := P) w T ad m c hu k b h0 h1
  rw [hE, h.size w] at hr
  have hs := run_sliceAt_slice (P := P) w T (.slice ad m c) none (some (.int k b)) none hu
  rw [hr] at hs
  have e : sliced ad 0 b.toNat c sz = .slice ad b.toNat c := by
    unfold sliced
    by_cases hc : c = 0
    · simp [hc]
    · simp only [hc, if_false, Nat.zero_mul, Nat.sub_zero]
      rw [show (ad.map fun x => x.add 0) = ad from add0 ad]
  rw [show (fun (s : Nat) (w : World) => (Result.ok (sliced ad 0 b.toNat c s) w)) = fun s w => Result.ok (sliced ad 0 b.toNat c s) w from rfl] at hs
  simp only [Result.andThen] at hs
  rw [e] at hs
  simp [Yl, execOp, hx, hy, hs]
/-- 's[a:]'. -/
theorem y_sll {ad : Option Addr} {m c : Nat} (h : SliceOf P T E sz) (hx : ev n f x = .slice ad m c) (hy : ev n f y = .int k a) (h0 : 0 ≤ a) (h1 : a ≤ m) : Yl P n f ⟨d, .slice T x (some y) none none, ty, pos, af, gd⟩ w (.slice (adv ad a.toNat c sz) (m - a.toNat) (c - a.toNat)) := by
  have hE : P.elem T = E := by simp [Program.elem, h.und]
  have hu : P.underlying T = some (.slice (P.elem T)) := by rw [hE]; exact h.und
  have hr := run_slice_l (P := P) w T ad m c hu k a h0 h1
  rw [hE, h.size w] at hr
  have hs := run_sliceAt_slice (P := P) w T (.slice ad m c) (some (.int k a)) none none hu
  rw [hr] at hs
  simp only [Result.andThen] at hs
  simp [Yl, execOp, hx, hy, hs, sliced, adv]

theorem y_ixR {ad : Option Addr} {m : Nat} {b0 : Nat} {i : Int} (hT : P.underlying T = some (.array m E)) (hs : SzOf P E sz) (hx : ev n f x = .pointer (some ⟨b0, 0, none⟩)) (hy : ev n f y = .int k i) (had : ad = some ⟨b0, 0, none⟩) (h0 : 0 ≤ i) (h1 : i < m) :
    Yl P n f ⟨d, .indexAddr T x y, ty, pos, af, gd⟩ w (.pointer (some ⟨blk ad, off ad + i.toNat * sz, none⟩)) := by
  subst had
  have hE : P.elem T = E := by simp [Program.elem, hT]
  have hL : P.arrayLen T = m := by simp [Program.arrayLen, hT]
  have := run_indexAt_array (P := P) w T ⟨b0, 0, none⟩ k i (by rw [hE, hL]; exact hT)
  rw [hL, if_pos ⟨h0, h1⟩, hE, hs w] at this
  simp [Yl, execOp, hx, hy, this, Addr.add_lit, blk, off, Result.andThen]

variable {α : Type} {enc : α → List Value} {lo hi : Nat} {ad : Option Addr} {c : Nat} {l : List α} {i : Int}

theorem y_nilP {p : Option Addr} (h : P.underlying T = some (.pointer (P.pointee T))) (hx : ev n f x = .pointer p) (hy : ev n f y = .pointer none) : Yl P n f ⟨d, .binOp .eql T x y T', ty, pos, af, gd⟩ w (.bool p.isNone) := by
  have h1 := run_equal_pointer_nil (P := P) w T p h
  simp [Yl, execOp, hx, hy, eqGuard, binOp, h1]
theorem y_nnilP {p : Option Addr} (h : P.underlying T = some (.pointer (P.pointee T))) (hx : ev n f x = .pointer p) (hy : ev n f y = .pointer none) : Yl P n f ⟨d, .binOp .neq T x y T', ty, pos, af, gd⟩ w (.bool (!p.isNone)) := by
  have h1 := run_equal_pointer_nil (P := P) w T p h
  simp [Yl, execOp, hx, hy, eqGuard, binOp, h1]

/-- A local array, zero. -/
theorem d_allocR {cs : Array Value} {m : Nat} {e0 : α} (hz : ZeroOf P T (.agg cs)) (hcs : cs.toList = (List.replicate m e0).flatMap enc) (hlen : ∀ x, (enc x).length = sz) (hm : m ≤ maxLen) (hlo : lo ≤ w.heap.size)
    (k : ∀ b w', b = w.heap.size → w'.heap.size = b + 1 → Ext w w' → Ow T enc sz lo (b + 1) w' (some ⟨b, 0, none⟩) m (List.replicate m e0) → K (.pointer (some ⟨b, 0, none⟩)) w') :
    DoK P n f ⟨d, .alloc T, ty, pos, af, gd⟩ w K := by
  refine ⟨_, w.alloc (.cells cs T), .inl (by simp [execOp, Instr.alloc, hz w, newVar, newRow, Value.cells, newObj, Sem.run]), k _ _ rfl (by simp) (Out.alloc w _) ⟨?_, hlen, Nat.le_refl _⟩⟩
  have h2 := World.ownsRow_lit (base := lo) (e := T) (size := sz) w cs m hlo hm (by rw [← Array.length_toList, hcs, flat_len hlen, List.length_replicate])
  rw [hcs] at h2
  simpa using h2

theorem splice_len {β : Type} {L E' : List β} {A s : Nat} (hE : E'.length = s) (h : A + s ≤ L.length) : (L.take A ++ E' ++ L.drop (A + s)).length = L.length := by
  simp only [List.length_append, List.length_take, List.length_drop, hE]
  omega
theorem splice_take {β : Type} {L E' : List β} {A s M : Nat} (hE : E'.length = s) (h1 : A + s ≤ M) (h2 : M ≤ L.length) : (L.take A ++ E' ++ L.drop (A + s)).take M = (L.take M).take A ++ E' ++ (L.take M).drop (A + s) := by
  apply List.ext_getElem?
  intro q
  simp only [List.getElem?_append, List.getElem?_take, List.getElem?_drop, List.length_append, List.length_take, hE]
  have e1 : min A L.length = A := by omega
  have e2 : min A (min M L.length) = A := by omega
  simp only [e1, e2]
  by_cases q1 : q < M
  · by_cases q2 : q < A + s
    · by_cases q3 : q < A
      · simp [q1, q2, q3]
      · simp [q1, q2, q3]
    · have q4 : A + s + (q - (A + s)) < M := by omega
      simp [q1, q2, q4]
  · have q2 : ¬ q < A + s := by omega
    have q4 : ¬ A + s + (q - (A + s)) < M := by omega
    simp [q1, q2, q4]

theorem flat_setN {l : List α} (hl : ∀ x, (enc x).length = sz) : ∀ (l : List α) (i : Nat) (x' : α), i < l.length →
    (l.flatMap enc).take (i * sz) ++ enc x' ++ (l.flatMap enc).drop (i * sz + sz) = (l.set i x').flatMap enc
  | [], i, x', h => by simp at h
  | q :: r, 0, x', h => by
    simp only [Nat.zero_mul, List.take_zero, List.nil_append, Nat.zero_add, List.flatMap_cons, List.set_cons_zero]
    rw [List.drop_append_of_le_length (by rw [hl]; exact Nat.le_refl _), List.drop_eq_nil_of_le (by rw [hl]; exact Nat.le_refl _), List.nil_append]
  | q :: r, i + 1, x', h => by
    have hi : i < r.length := by simpa using h
    have ih := flat_setN hl (l := l) r i x' hi
    have e1 : (i + 1) * sz = sz + i * sz := by rw [Nat.add_mul]; omega
    simp only [List.flatMap_cons, List.set_cons_succ]
    rw [← ih, e1, show sz + i * sz + sz = sz + (i * sz + sz) by omega]
    rw [List.take_append, List.drop_append, hl, Nat.add_sub_cancel_left, Nat.add_sub_cancel_left, List.take_of_length_le (by rw [hl]; omega), List.drop_eq_nil_of_le (by rw [hl]; omega)]
    simp

/-- A struct stored into an element of a slice of the call's own. -/
theorem d_sw {e' : α} (hO : Ow E enc sz lo hi w ad c l) (hT : SzOf P T sz) (hx : ev n f x = .pointer (some ⟨blk ad, off ad + i.toNat * sz, none⟩)) (hy : ev n f y = .agg (enc e').toArray) (h1 : ones (enc e') = true)
    (h0 : 0 ≤ i) (hi1' : i < l.length) (k : ∀ w', w'.heap.size = w.heap.size → Out (blk ad) (hi1 ad) w w' → Ow E enc sz lo hi w' ad c (l.set i.toNat e') → K undef w') : DoK P n f ⟨d, .store T x y, ty, pos, af, gd⟩ w K := by
  rcases hO.form with ⟨_, hl, _⟩ | ⟨g, rfl, hlo, hlt, hle⟩
  · omega
  · have hi' : i.toNat < l.length := by omega
    obtain ⟨_, h2⟩ := hO.owns
    rcases h2 with ⟨h2, _⟩ | ⟨g', cap, cur, hv, hb, hg, hnc, hcm, hcs, htake⟩
    · simp at h2
    · simp only [Value.slice.injEq, Option.some.injEq, Addr.mk.injEq, and_true, true_and] at hv
      obtain ⟨rfl, rfl⟩ := hv
      have hfl : (l.flatMap enc).length = l.length * sz := flat_len hO.len l
      have hcur : l.length * sz ≤ cur.toList.length := by rw [← htake] at hfl; rw [← hfl, List.length_take]; exact Nat.min_le_right _ _
      have hfit : i.toNat * sz + sz ≤ l.length * sz := by rw [← Nat.succ_mul]; exact Nat.mul_le_mul_right _ hi'
      simp only [blk, off, Nat.zero_add] at hx
      have hst := run_storeCells_at P g (i.toNat * sz) E (enc e') 0 cur w hg (by rw [hO.len]; simp only [Nat.add_zero]; rw [← Array.length_toList]; omega) (ones_all h1)
      simp only [Nat.add_zero] at hst
      rw [hO.len] at hst
      refine ⟨undef, w.setRow g (cur.toList.take (i.toNat * sz) ++ enc e' ++ cur.toList.drop (i.toNat * sz + sz)).toArray, .inr ⟨rfl, ?_⟩, k _ (by simp) ?_ ?_⟩
      · simp [execOp, hx, hy, Instr.storeAt, Instr.sureAddr, storeVar, Value.cells, hT w, hO.len]
        rw [hst]
        simp [Result.andThen]
      · exact Out.setRow w g _
      · refine ⟨⟨?_, .inr ⟨g, c, _, by simp, hb, setRow_heap w g cur _ E (0, 0) hg, by simpa using hnc, hcm, ?_, ?_⟩⟩, hO.len, hO.top⟩
        · rw [flat_len hO.len]
        · rw [← hcs, ← Array.length_toList]
          simp only [List.toList_toArray]
          exact splice_len (hO.len e') (Nat.le_trans hfit hcur)
        · rw [← flat_setN (l := l) hO.len l i.toNat e' hi', ← htake, List.length_set]
          simp only [List.toList_toArray]
          exact splice_take (hO.len e') hfit hcur

/-- 'append(s, xs..)' onto a slice of the call's own, out of any slice that is read, nil or not. -/
theorem d_appN {a2 : Option Addr} {c2 m lo2 hi2 : Nat} {xs : List α} {z : Value} {bytes : Nat} {Ts : Array TypeId} (hO : Ow E enc sz lo hi w ad c l) (hT : SliceOf P T E sz) (hinfo : ∃ i, P.info? E = some i ∧ i.zero = some z ∧ i.size = sz ∧ i.bytes = bytes ∧ z.cells.size = sz) (hsz : 0 < sz)
    (hTs : Ts = #[T, T]) (hx : ev n f x = .slice ad l.length c) (hy : ev n f y = .slice a2 m c2) (hm : m = xs.length) (hS : Sl enc sz lo2 hi2 w a2 xs) (h1 : ∀ x, ones (enc x) = true)
    (h63 : l.length + xs.length ≤ maxLen) (hbytes : (l.length + xs.length) * bytes ≤ 140737488355328) (hlo : lo ≤ w.heap.size) (hhi : hi ≤ w.heap.size)
    (k : ∀ ad' c' w', Out (blk ad) (hi1 ad) w w' → Ow E enc sz lo w'.heap.size w' ad' c' (l ++ xs) → K (.slice ad' (l ++ xs).length c') w') :
    DoK P n f ⟨d, .call ⟨.builtin .append, #[x, y], Ts⟩, ty, pos, af, gd⟩ w K := by
  cases ha : a2 with
  | some q => subst ha; exact d_appS hO hT hinfo hsz hTs hx hy hm rfl hS h1 h63 hbytes hlo hhi k
  | none =>
    subst ha
    have hn : xs = [] := Classical.byContradiction fun h => by obtain ⟨⟨b, o, e⟩, _⟩ := hS.plain h; cases e
    subst hn
    simp at hm
    subst hm
    obtain ⟨i, hi', hiz, his, hib, hzs⟩ := hinfo
    subst hTs
    have hr : (Builtin.append_ #[T, T] ty #[.slice ad l.length c, .slice none 0 c2]).run P w = .ok (.slice ad l.length c) w := by
      rcases hO.form with ⟨rfl, hl, rfl⟩ | ⟨g, rfl, _, _, hle⟩
      · have hl0 : l = [] := List.eq_nil_of_length_eq_zero hl
        subst hl0
        simp [Builtin.append_, run_underlying hT.und, sizeOf, typeInfo, hi', Builtin.lenOf, Builtin.firstCells]
      · simp [Builtin.append_, run_underlying hT.und, sizeOf, typeInfo, hi', Builtin.lenOf, Builtin.firstCells, hle, storeCells]
    have hk := k ad c w (Out.refl _ _ w) (by rw [List.append_nil]; exact hO.wide hhi)
    rw [List.append_nil] at hk
    refine ⟨_, w, .inl ?_, hk⟩
    simp only [execOp, resolve, invoke, builtin, Sem.run_bind, Sem.run_pure, Result.andThen_ok, List.map_toArray, List.map_cons, List.map_nil, hx, hy, hr]
end
end Go.Wk
