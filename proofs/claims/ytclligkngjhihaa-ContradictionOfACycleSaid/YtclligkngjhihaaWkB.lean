/-
  Frames as functions, one law for each kind of operation, control flow, loops and cuts over such frames: the walk by plain 'refine'.
-/
import Derived.Test.YtclligkngjhihaaWkA
import Derived.WalkKit
import Derived.IntWalk
namespace Go.Wk
set_option linter.unusedVariables false
set_option linter.unusedSimpArgs false

/-! ### Frames -/

def lk : List (Nat × Value) → (Nat → Value) → Nat → Value
  | [], b, i => b i
  | (j, v) :: L, b, i => cond (Nat.beq i j) v (lk L b i)

def nth : List Value → Nat → Value
  | [], _ => undef
  | v :: _, 0 => v
  | _ :: l, n + 1 => nth l n

/-- 'b', but what 'g' says at the slots of 'S'. -/
def hav (S : List Nat) (g b : Nat → Value) (i : Nat) : Value := cond (S.any fun j => Nat.beq i j) (g i) (b i)

def act (n : Nat) (f : Nat → Value) : Act := ⟨Array.ofFn (n := n) fun i => f i.val, []⟩

def ev (n : Nat) (f : Nat → Value) : Operand → Value
  | .tmp t => cond (Nat.blt t n) (f t) undef
  | .const v => v
  | .global g => .pointer (some ⟨g, 0, none⟩)
  | .func k => .func (.func k) #[] #[]

theorem act_getD (n : Nat) (f : Nat → Value) (t : Nat) : (act n f).tmps.getD t undef = cond (Nat.blt t n) (f t) undef := by
  simp only [act, Array.getD_eq_getD_getElem?, Array.getElem?_ofFn]
  by_cases h : t < n
  · have hb : Nat.blt t n = true := by simpa [Nat.blt_eq] using h
    simp [h, hb]
  · have hb : Nat.blt t n = false := by rw [← Bool.not_eq_true, Nat.blt_eq]; exact h
    simp [h, hb]

theorem eval_act (n : Nat) (f : Nat → Value) (x : Operand) : (act n f).eval x = ev n f x := by
  cases x with
  | tmp t => exact act_getD n f t
  | _ => rfl

theorem evals_act (n : Nat) (f : Nat → Value) : (act n f).eval = ev n f := funext (eval_act n f)

theorem act_put (n : Nat) (L : List (Nat × Value)) (b : Nat → Value) (d : Nat) (v : Value) : (act n (lk L b)).put (some d) v = act n (lk ((d, v) :: L) b) := by
  simp only [act, Act.put]
  congr 1
  apply Array.ext_getElem?
  intro i
  simp only [Array.getElem?_setIfInBounds, Array.getElem?_ofFn, Array.size_ofFn, lk]
  by_cases h : d = i
  · subst h
    by_cases hn : d < n <;> simp [hn]
  · have hb : Nat.beq i d = false := by
      rw [← Bool.not_eq_true, Nat.beq_eq]; omega
    simp [h, hb]

theorem act_eq {n : Nat} {f g : Nat → Value} (h : ∀ i, f i = g i) : act n f = act n g := by rw [funext h]

/-- Each slot of the list holds its value. -/
def allEq : List (Nat × Value) → (Nat → Value) → Prop
  | [], _ => True
  | (j, v) :: L, f => f j = v ∧ allEq L f

def keysIn (S : List Nat) : List (Nat × Value) → Bool
  | [] => true
  | (j, _) :: L => (S.any fun k => Nat.beq j k) && keysIn S L

theorem lk_allEq {L : List (Nat × Value)} {f : Nat → Value} (h : allEq L f) (i : Nat) : lk L f i = f i := by
  induction L with
  | nil => rfl
  | cons p L ih =>
    obtain ⟨j, v⟩ := p
    obtain ⟨h1, h2⟩ := h
    simp only [lk]
    by_cases hb : Nat.beq i j = true
    · have : i = j := by simpa using hb
      subst this
      simp [h1]
    · simp only [Bool.not_eq_true] at hb
      simp [hb, ih h2]

theorem lk_out {S : List Nat} {L : List (Nat × Value)} {b : Nat → Value} (h : keysIn S L = true) {i : Nat} (hi : (S.any fun j => Nat.beq i j) = false) : lk L b i = b i := by
  induction L with
  | nil => rfl
  | cons p L ih =>
    obtain ⟨j, v⟩ := p
    simp only [keysIn, Bool.and_eq_true] at h
    simp only [lk]
    have hb : Nat.beq i j = false := by
      cases hb : Nat.beq i j with
      | false => rfl
      | true =>
        have : i = j := by simpa using hb
        subst this
        rw [h.1] at hi; cases hi
    simp [hb, ih h.2]

/-- Beyond the slots of 'S' the two frames are one. -/
def Same (S : List Nat) (F f : Nat → Value) : Prop := ∀ i, (S.any fun j => Nat.beq i j) = false → F i = f i

def subIn (S : List Nat) : List Nat → Bool
  | [] => true
  | j :: r => (S.any fun k => Nat.beq j k) && subIn S r

theorem same_rfl {S : List Nat} {f : Nat → Value} : Same S f f := fun _ _ => rfl
theorem same_h0 {S : List Nat} {h f : Nat → Value} : Same S (hav S h f) f := fun i hi => by simp [hav, hi]
theorem same_lk {S : List Nat} {L : List (Nat × Value)} {F f : Nat → Value} (hk : keysIn S L = true) (h : Same S F f) : Same S (lk L F) f := fun i hi => (lk_out hk hi).trans (h i hi)
theorem same_hav {S S2 : List Nat} {g F f : Nat → Value} (hs : subIn S S2 = true) (h : Same S F f) : Same S (hav S2 g F) f := fun i hi => by
  have e : (S2.any fun j => Nat.beq i j) = false := by
    induction S2 with
    | nil => rfl
    | cons j r ih =>
      simp only [subIn, Bool.and_eq_true] at hs
      simp only [List.any_cons, ih hs.2, Bool.or_false]
      cases hb : Nat.beq i j with
      | false => rfl
      | true =>
        have : i = j := by simpa using hb
        subst this
        rw [hs.1] at hi; cases hi
  simp only [hav, e, cond_false]
  exact h i hi

/-- What stands at a loop's head, or at a cut. -/
theorem head_eq {n : Nat} {S : List Nat} {J : List (Nat × Value)} {F f : Nat → Value} (hs : Same S F f) (hJ : allEq J F) : act n F = act n (lk J (hav S F f)) := by
  apply act_eq
  intro i
  have e : hav S F f = F := by
    funext k
    unfold hav
    cases hk : (S.any fun j => Nat.beq k j) with
    | true => rfl
    | false => exact (hs k hk).symm
  rw [e, lk_allEq hJ]

theorem head_eq0 {n : Nat} {S : List Nat} {J : List (Nat × Value)} {f : Nat → Value} (hJ : allEq J f) : act n f = act n (lk J (hav S f f)) := head_eq same_rfl hJ

/-! ### Calls -/

def Cal (P : Program) (k : FuncId) (args : List Value) (w : World) (R : Value → World → Prop) : Prop :=
  Calls P k args.toArray w (fun e w' => ∃ v, e = .returned v ∧ R v w')

theorem Cal.mono {P : Program} {k : FuncId} {args : List Value} {w : World} {R R' : Value → World → Prop} (h : Cal P k args w R) (hr : ∀ v w', R v w' → R' v w') : Cal P k args w R' :=
  Calls.mono h fun _ _ ⟨v, he, h'⟩ => ⟨v, he, hr _ _ h'⟩

structure Callable (P : Program) (k : FuncId) : Prop where
  ex : ∀ (args : Array Value) (w : World), (callFunc k args).run P w = .ok (.enter k args) w

def PostV (P : Program) (fn : Func) (R : Value → World → Prop) : Exit → Act → World → Prop := bodyPost P fn (fun e w' => ∃ v, e = .returned v ∧ R v w')

theorem enter {P : Program} {k : FuncId} {fn : Func} {c : Code} {n : Nat} {args : List Value} {w : World} {R : Value → World → Prop}
    (hf : P.funcs[k]? = some fn) (hb : fn.body = some c) (hn : fn.ntmps = n) (hl : Nat.ble args.length n = true)
    (h : c.wp P (PostV P fn R) (act n (lk [] (nth args))) w) : Cal P k args w R := by
  refine calls_of_wp hf hb ?_
  have e : ({ tmps := args.toArray ++ Array.replicate (fn.ntmps - args.toArray.size) undef, defers := [] } : Act) = act n (lk [] (nth args)) := by
    subst hn
    simp only [act, Act.mk.injEq, and_true]
    have hl' : args.length ≤ fn.ntmps := by simpa using hl
    have key : ∀ (l : List Value) (i : Nat), nth l i = l.getD i undef := by
      intro l
      induction l with
      | nil => intro i; simp [nth]
      | cons a l ih => intro i; cases i <;> simp [nth, ih]
    apply Array.ext
    · simp; omega
    · intro i h1 h2
      simp only [Array.getElem_ofFn, lk, key]
      by_cases hi : i < args.length
      · simp [Array.getElem_append, hi]
      · simp [Array.getElem_append, hi]
  rw [e]
  exact h

/-! ### Control -/

section
variable {P : Program} {Q : Exit → Act → World → Prop} {K : Act → World → Prop} {a : Act} {w : World} {id : Nat} {e : Exit}

theorem n_then (h : K a w) : Exit.then K Q .normal a w := h
theorem n_blk (h : Q .normal a w) : Exit.inBlock id Q .normal a w := h
theorem r_then (h : Q .ret a w) : Exit.then K Q .ret a w := h
theorem r_blk (h : Q .ret a w) : Exit.inBlock id Q .ret a w := h
theorem e_then {j : Nat} (h : Q (.exit j) a w) : Exit.then K Q (.exit j) a w := h
theorem e_blk (h : Q .normal a w) : Exit.inBlock id Q (.exit id) a w := by simpa [Exit.inBlock] using h
theorem e_blk' {j : Nat} (hne : Nat.beq j id = false) (h : Q (.exit j) a w) : Exit.inBlock id Q (.exit j) a w := by
  have : ¬ j = id := by intro h; rw [← Nat.beq_eq] at h; rw [h] at hne; cases hne
  simpa [Exit.inBlock, this] using h

theorem cnd {n : Nat} {f : Nat → Value} {c : Operand} {x y : Code} {t : Bool} (hc : ev n f c = .bool t) (ht : t = true → x.wp P Q (act n f) w) (hf : t = false → y.wp P Q (act n f) w) : (Code.cond c x y).wp P Q (act n f) w :=
  wp_cond_split ((eval_act n f c).trans hc) ht hf

variable {fn : Func} {R : Value → World → Prop} {n : Nat} {f : Nat → Value}

theorem ret0 (hr : fn.results = #[]) (h : R (.tuple #[]) w) : PostV P fn R .ret (act n f) w :=
  bodyPost_ret (results_none hr _ _ _) rfl ⟨_, rfl, h⟩
theorem end0 (hr : fn.results = #[]) (h : R (.tuple #[]) w) : PostV P fn R .normal (act n f) w :=
  bodyPost_end (results_none hr _ _ _) rfl ⟨_, rfl, h⟩
theorem ret1 {t : Nat} {v : Value} (hr : fn.results = #[.tmp t]) (hv : ev n f (.tmp t) = v) (h : R v w) : PostV P fn R .ret (act n f) w :=
  bodyPost_ret (results_tmp hr _ _ _) rfl ⟨_, rfl, by rw [act_getD]; show R (ev n f (.tmp t)) w; rw [hv]; exact h⟩
theorem ret2 {t t' : Nat} {v v' : Value} (hr : fn.results = #[.tmp t, .tmp t']) (hv : ev n f (.tmp t) = v) (hv' : ev n f (.tmp t') = v') (h : R (.tuple #[v, v']) w) : PostV P fn R .ret (act n f) w :=
  bodyPost_ret (v := .tuple #[v, v']) (by simp only [results, hr]; simp [← Array.getD_eq_getD_getElem?, act_getD]; exact ⟨hv, hv'⟩) rfl ⟨_, rfl, h⟩
theorem ret3 {t t' t'' : Nat} {v v' v'' : Value} (hr : fn.results = #[.tmp t, .tmp t', .tmp t'']) (hv : ev n f (.tmp t) = v) (hv' : ev n f (.tmp t') = v') (hv'' : ev n f (.tmp t'') = v'') (h : R (.tuple #[v, v', v'']) w) : PostV P fn R .ret (act n f) w :=
  bodyPost_ret (v := .tuple #[v, v', v'']) (by simp only [results, hr]; simp [← Array.getD_eq_getD_getElem?, act_getD]; exact ⟨hv, hv', hv''⟩) rfl ⟨_, rfl, h⟩
end

/-! ### Loops and cuts -/

section
variable {P : Program} {Q : Exit → Act → World → Prop} {w : World} {n : Nat} {f : Nat → Value} {γ : Type}

/-- What a round, or the first half of a cut, must come to. -/
def Come (n : Nat) (f : Nat → Value) (S : List Nat) (J : γ → List (Nat × Value)) (I : γ → World → Prop) (a' : Act) (w' : World) : Prop :=
  ∃ g' F, a' = act n F ∧ Same S F f ∧ allEq (J g') F ∧ I g' w'

theorem lp {c : Code} (S : List Nat) (J : γ → List (Nat × Value)) (I : γ → World → Prop) (μ : γ → Nat) (g0 : γ) (h0 : allEq (J g0) f) (hI : I g0 w)
    (round : ∀ (g : γ) (h : Nat → Value) (w : World), I g w → c.wp P (Exit.then (Come n f S J (fun g' w' => I g' w' ∧ μ g' < μ g)) Q) (act n (lk (J g) (hav S h f))) w) :
    (Code.loop c).wp P Q (act n f) w := by
  have key : ∀ (b : Frame) (k : List Item) (cs : List Frame) (m : Nat) (g : γ) (h : Nat → Value) (w : World), μ g = m → I g w →
      ∃ e a' w', Q e a' w' ∧ Arrives P (lone (b.at (act n (lk (J g) (hav S h f))) (.code c :: .inLoop c :: k)) cs w) b k cs e a' w' := by
    intro b k cs m
    induction m using Nat.strongRecOn with
    | _ m ih =>
      intro g h w hm hI
      obtain ⟨e, a₁, w₁, hq, harr⟩ := round g h w hI b (.inLoop c :: k) cs
      cases e with
      | normal =>
        obtain ⟨g', F, rfl, hs, hJ, hI', hlt⟩ := hq
        rw [head_eq hs hJ] at harr
        obtain ⟨e₂, a₂, w₂, hq₂, harr₂⟩ := ih (μ g') (hm ▸ hlt) g' _ w₁ rfl hI'
        exact ⟨e₂, a₂, w₂, hq₂, .of_steps (Steps.trans harr (.one step_inLoop)) harr₂⟩
      | exit id => exact ⟨_, a₁, w₁, hq, .pass (x := .inLoop c) rfl (fun _ _ => .inl (by simp)) harr⟩
      | goto l => exact ⟨_, a₁, w₁, hq, .pass (x := .inLoop c) rfl (fun _ _ => .inl (by simp)) harr⟩
      | ret => exact ⟨_, a₁, w₁, hq, .pass (x := .inLoop c) rfl (fun _ _ => .inl (by simp)) harr⟩
      | panic ch => exact ⟨_, a₁, w₁, hq, .pass (x := .inLoop c) rfl (fun _ _ => .inl (by simp)) harr⟩
      | outgrown => exact ⟨_, a₁, w₁, hq, .pass (x := .inLoop c) rfl (fun _ _ => .inl (by simp)) harr⟩
  intro b k cs
  obtain ⟨e, a', w', hq, harr⟩ := key b k cs _ g0 f w rfl hI
  rw [← head_eq0 h0] at harr
  exact ⟨e, a', w', hq, .of_steps (.one step_loop) harr⟩

theorem cut {x y : Code} (S : List Nat) (J : γ → List (Nat × Value)) (I : γ → World → Prop)
    (h1 : x.wp P (Exit.then (Come n f S J I) Q) (act n (lk [] f)) w)
    (h2 : ∀ (g : γ) (h : Nat → Value) (w : World), I g w → y.wp P Q (act n (lk (J g) (hav S h f))) w) : (Code.seq x y).wp P Q (act n f) w := by
  refine wp_seq (wp_mono h1 ?_)
  intro e a' w' hq
  cases e with
  | normal =>
    obtain ⟨g', F, rfl, hs, hJ, hI⟩ := hq
    show y.wp P Q _ _
    rw [head_eq hs hJ]
    exact h2 g' _ _ hI
  | _ => exact hq
end
/-- How truth values read as statements: one name for all of these laws. -/
theorem nm : (∀ (p : Prop) [Decidable p], (decide p = true) = p) ∧ (∀ (p : Prop) [Decidable p], (decide p = false) = ¬ p) ∧ (∀ b : Bool, ((!b) = true) = (b = false)) ∧ (∀ b : Bool, ((!b) = false) = (b = true)) ∧ (∀ a b : Bool, ((a && b) = true) = (a = true ∧ b = true)) ∧ (∀ a b : Bool, ((a || b) = true) = (a = true ∨ b = true)) ∧
    (∀ a b : Bool, ((a || b) = false) = (a = false ∧ b = false)) ∧ (∀ c t : Bool, (bif c then t else true) = (!c || t)) ∧ (∀ c t : Bool, (bif c then t else false) = (c && t)) ∧ (∀ c f : Bool, (bif c then true else f) = (c || f)) ∧ (∀ c f : Bool, (bif c then false else f) = (!c && f)) ∧
    (∀ (α : Type) (a b : α), (a ≠ b) = ¬ (a = b)) ∧ (∀ (p : Prop) [Decidable p], (¬ ¬ p) = p) ∧ (∀ (α : Type) [BEq α] [LawfulBEq α] (a b : α), ((a != b) = true) = ¬ (a = b)) ∧ (∀ (α : Type) [BEq α] [LawfulBEq α] (a b : α), ((a == b) = true) = (a = b)) ∧ (∀ (α : Type) [BEq α] [LawfulBEq α] (a b : α), ((a == b) = false) = ¬ (a = b)) ∧ ((!true) = false) ∧ ((!false) = true) := by
  refine ⟨fun p _ => decide_eq_true_eq, fun p _ => propext decide_eq_false_iff_not, fun b => Bool.not_eq_true' b, fun b => Bool.not_eq_false' b, Bool.and_eq_true, Bool.or_eq_true, fun a b => propext Bool.or_eq_false_iff, fun c t => Bool.cond_true_right c t, fun c t => Bool.cond_false_right c t, fun c t => Bool.cond_true_left c t, fun c t => Bool.cond_false_left c t,
    fun α a b => ne_eq a b, fun p _ => propext Decidable.not_not, fun α _ _ a b => propext bne_iff_ne, fun α _ _ a b => propext beq_iff_eq, fun α _ _ a b => propext beq_eq_false_iff_ne, rfl, rfl⟩
end Go.Wk
