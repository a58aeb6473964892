/-
  One law on a region that draws its order: calls and allocations ('chain' operations) stand in one forced order, all else only reads what no chain operation changes; then the order of the text serves every order, and a tail that comes behind all else is walked in its own order.
-/
import Derived.StillTail
namespace Go.Wk
set_option linter.unusedVariables false
set_option linter.unusedSimpArgs false
section
variable {P : Program} {ops : Array Oper} {G : World → Prop} {ch : Nat → Bool}

/-- In every world of the class the operation yields 'v' and leaves the world as it is. -/
def neut (P : Program) (G : World → Prop) (o : Oper) (a : Act) (v : Value) : Prop := ∀ w, G w → (execOp a.eval o).run P w = .ok (.value v) w

def chnUpon (P : Program) (o : Oper) (a : Act) (K : Act → World → Prop) : Result Next → Prop
  | .ok (.value v) w' => K (a.put o.dst v) w'
  | .ok .skip w' => K (a.put o.dst undef) w'
  | .ok (.enter f args) w' => Calls P f args w' (fun e w'' => ∃ v, e = .returned v ∧ K (a.put o.dst v) w'')
  | _ => False

def chn (P : Program) (o : Oper) (a : Act) (w : World) (K : Act → World → Prop) : Prop := chnUpon P o a K ((execOp a.eval o).run P w)

def oStep1 (P : Program) (ops : Array Oper) (G : World → Prop) (c : Bool) (o : Oper) (K : Act → World → Prop) (a : Act) (w : World) : Prop :=
  if Region.wanted o (yielded ops a.tmps) then
    (if c then chn P o a w (fun a' w' => G w' ∧ K a' w') else ∃ v, neut P G o a v ∧ K (a.put o.dst v) w)
  else K (a.put o.dst undef) w

def wpT (P : Program) (ops : Array Oper) (G : World → Prop) (ch : Nat → Bool) (Q : Act → World → Prop) : List Oper → Nat → Act → World → Prop
  | [], _, a, w => Q a w
  | o :: rest, k, a, w => oStep1 P ops G (ch k) o (wpT P ops G ch Q rest (k + 1)) a w

def oStep (P : Program) (ops : Array Oper) (G : World → Prop) (ch : Nat → Bool) (i : Nat) (K : Act → World → Prop) (a : Act) (w : World) : Prop :=
  match ops[i]? with
  | none => K a w
  | some o => oStep1 P ops G (ch i) o K a w

theorem chn_mono {o : Oper} {a : Act} {w : World} {K K' : Act → World → Prop} (h : ∀ a w, K a w → K' a w) (hh : chn P o a w K) : chn P o a w K' := by
  unfold chn at *
  generalize (execOp a.eval o).run P w = r at *
  cases r with
  | ok n w' =>
    cases n <;> simp only [chnUpon] at hh ⊢
    case enter f args => exact hh.mono fun e w'' ⟨v, he, hk⟩ => ⟨v, he, h _ _ hk⟩
    all_goals exact h _ _ hh
  | halt x w' => simp only [chnUpon] at hh

theorem chn_mono' {o : Oper} {a : Act} {w : World} {K K' : Act → World → Prop} (h : ∀ v w, K (a.put o.dst v) w → K' (a.put o.dst v) w) (hh : chn P o a w K) : chn P o a w K' := by
  unfold chn at *
  generalize (execOp a.eval o).run P w = r at *
  cases r with
  | ok n w' =>
    cases n <;> simp only [chnUpon] at hh ⊢
    case enter f args => exact hh.mono fun e w'' ⟨v, he, hk⟩ => ⟨v, he, h _ _ hk⟩
    all_goals exact h _ _ hh
  | halt x w' => simp only [chnUpon] at hh

theorem oStep1_mono {c : Bool} {o : Oper} {a : Act} {w : World} {K K' : Act → World → Prop} (h : ∀ a w, K a w → K' a w) (hh : oStep1 P ops G c o K a w) : oStep1 P ops G c o K' a w := by
  unfold oStep1 at *
  split
  · rename_i hw
    simp only [hw, if_true] at hh
    cases c
    · simp only [Bool.false_eq_true, if_false] at hh ⊢
      obtain ⟨v, hv, hk⟩ := hh
      exact ⟨v, hv, h _ _ hk⟩
    · simp only [if_true] at hh ⊢
      exact chn_mono (fun a w hk => ⟨hk.1, h _ _ hk.2⟩) hh
  · rename_i hw
    simp only [hw] at hh
    exact h _ _ hh

theorem wpT_mono {Q Q' : Act → World → Prop} (h : ∀ a w, Q a w → Q' a w) : ∀ (l : List Oper) (i : Nat) (a : Act) (w : World), wpT P ops G ch Q l i a w → wpT P ops G ch Q' l i a w
  | [], _, _, _, hh => h _ _ hh
  | _ :: rest, i, _, _, hh => oStep1_mono (fun a w hk => wpT_mono h rest (i + 1) a w hk) hh

/-- There is an outcome. -/
theorem chn_some {o : Oper} {a : Act} {w : World} {K : Act → World → Prop} (hh : chn P o a w K) : ∃ v w', K (a.put o.dst v) w' := by
  unfold chn at hh
  generalize (execOp a.eval o).run P w = r at *
  cases r with
  | ok n w' =>
    cases n <;> simp only [chnUpon] at hh
    case value v => exact ⟨v, w', hh⟩
    case skip => exact ⟨undef, w', hh⟩
    case enter f args =>
      obtain ⟨e, w'', fr, ⟨v, _, hk⟩, _⟩ := hh []
      exact ⟨v, w'', hk⟩
  | halt x w' => simp only [chnUpon] at hh

theorem oStep1_some {c : Bool} {o : Oper} {a : Act} {w : World} {K : Act → World → Prop} (hh : oStep1 P ops G c o K a w) : ∃ a' w', K a' w' := by
  unfold oStep1 at hh
  split at hh
  · cases c
    · simp only [Bool.false_eq_true, if_false] at hh
      obtain ⟨v, _, hk⟩ := hh
      exact ⟨_, _, hk⟩
    · simp only [if_true] at hh
      obtain ⟨v, w', hk⟩ := chn_some hh
      exact ⟨_, _, hk.2⟩
  · exact ⟨_, _, hh⟩

/-- A chain operation beside a slot that it does not look at. -/
theorem chn_put {o : Oper} {a : Act} {w : World} {x : Option Tmp} {v : Value} {K : Act → World → Prop} (hs : ∀ cs b, o.op ≠ .select cs b)
    (h1 : ∀ d, x = some d → d ∉ o.looksAt ops) (h2 : ∀ d, x = some d → o.dst ≠ some d) :
    chn P o (a.put x v) w K ↔ chn P o a w (fun a' w' => K (a'.put x v) w') := by
  unfold chn
  rw [execOp_put o hs a x v h1]
  generalize (execOp a.eval o).run P w = r
  have hc : ∀ u, (a.put x v).put o.dst u = (a.put o.dst u).put x v := fun u => Act.put_comm a v u h2
  cases r with
  | ok n w' => cases n <;> simp only [chnUpon, hc]
  | halt y w' => simp only [chnUpon]

/-- Two operations that are apart, not both of the chain, may change places. -/
theorem oStep1_swap {ci cj : Bool} {oi oj : Oper} (hap : oi.apart ops oj = true) (hsi : ∀ cs b, oi.op ≠ .select cs b) (hsj : ∀ cs b, oj.op ≠ .select cs b)
    (hnb : ¬ (ci = true ∧ cj = true)) {M : Act → World → Prop} {a : Act} {w : World} (hG : G w)
    (h : oStep1 P ops G ci oi (fun a' w' => oStep1 P ops G cj oj M a' w') a w) :
    oStep1 P ops G cj oj (fun a' w' => oStep1 P ops G ci oi M a' w') a w := by
  obtain ⟨h1, h2, h3⟩ := Oper.apart_spec hap
  have h2' : ∀ d, oj.dst = some d → oi.dst ≠ some d := fun d hd he => h2 d he hd
  -- the guards do not see each other
  have wj : ∀ v, Region.wanted oj (yielded ops (a.put oi.dst v).tmps) = Region.wanted oj (yielded ops a.tmps) := fun v => wanted_put oj a oi.dst v h1
  have wi : ∀ v, Region.wanted oi (yielded ops (a.put oj.dst v).tmps) = Region.wanted oi (yielded ops a.tmps) := fun v => wanted_put oi a oj.dst v h3
  have nj : ∀ v u, neut P G oj (a.put oi.dst v) u ↔ neut P G oj a u := fun v u => by unfold neut; rw [execOp_put oj hsj a oi.dst v h1]
  have ni : ∀ v u, neut P G oi (a.put oj.dst v) u ↔ neut P G oi a u := fun v u => by unfold neut; rw [execOp_put oi hsi a oj.dst v h3]
  have hcm : ∀ v u, (a.put oi.dst v).put oj.dst u = (a.put oj.dst u).put oi.dst v := fun v u => Act.put_comm a v u h2
  unfold oStep1 at h
  by_cases hwi : Region.wanted oi (yielded ops a.tmps) = true
  · simp only [hwi, if_true] at h
    cases ci
    · simp only [Bool.false_eq_true, if_false] at h
      obtain ⟨v, hv, h⟩ := h
      unfold oStep1
      rw [wj v] at h
      by_cases hwj : Region.wanted oj (yielded ops a.tmps) = true
      · simp only [hwj, if_true] at h ⊢
        cases cj
        · simp only [Bool.false_eq_true, if_false] at h ⊢
          obtain ⟨u, hu, h⟩ := h
          refine ⟨u, (nj v u).1 hu, ?_⟩
          simp only [oStep1, wi u, hwi, if_true, Bool.false_eq_true, if_false]
          exact ⟨v, (ni u v).2 hv, by rw [← hcm]; exact h⟩
        · simp only [if_true] at h ⊢
          rw [chn_put hsj h1 h2] at h
          unfold chn at h ⊢
          generalize (execOp a.eval oj).run P w = r at *
          have key : ∀ u w', G w' ∧ M ((a.put oj.dst u).put oi.dst v) w' → G w' ∧ oStep1 P ops G false oi M (a.put oj.dst u) w' := fun u w' hk => by
            refine ⟨hk.1, ?_⟩
            simp only [oStep1, wi u, hwi, if_true, Bool.false_eq_true, if_false]
            exact ⟨v, (ni u v).2 hv, hk.2⟩
          cases r with
          | ok n w' =>
            cases n <;> simp only [chnUpon] at h ⊢
            case enter f args => exact h.mono fun e w'' ⟨u, he, hk⟩ => ⟨u, he, key u w'' hk⟩
            all_goals exact key _ _ h
          | halt y w' => simp only [chnUpon] at h
      · simp only [hwj, Bool.false_eq_true, if_false] at h ⊢
        simp only [oStep1, wi undef, hwi, if_true, Bool.false_eq_true, if_false]
        exact ⟨v, (ni undef v).2 hv, by rw [← hcm]; exact h⟩
    · have hcj : cj = false := by cases cj <;> simp_all
      subst hcj
      simp only [if_true] at h
      unfold oStep1
      by_cases hwj : Region.wanted oj (yielded ops a.tmps) = true
      · simp only [hwj, if_true, Bool.false_eq_true, if_false]
        obtain ⟨v0, w0, _, h0⟩ := chn_some h
        simp only [wj v0, hwj, if_true, Bool.false_eq_true, if_false] at h0
        obtain ⟨u, hu, _⟩ := h0
        have hu' : neut P G oj a u := (nj v0 u).1 hu
        refine ⟨u, hu', ?_⟩
        simp only [oStep1, wi u, hwi, if_true]
        rw [chn_put hsi h3 h2']
        unfold chn at h ⊢
        generalize (execOp a.eval oi).run P w = r at *
        have key : ∀ v w', G w' ∧ oStep1 P ops G false oj M (a.put oi.dst v) w' → G w' ∧ M ((a.put oi.dst v).put oj.dst u) w' := fun v w' hk => by
          refine ⟨hk.1, ?_⟩
          have hk2 := hk.2
          simp only [oStep1, wj v, hwj, if_true, Bool.false_eq_true, if_false] at hk2
          obtain ⟨u', hu2, hk2⟩ := hk2
          have e1 := (nj v u').1 hu2 w hG
          have e2 := hu' w hG
          rw [e1] at e2
          simp only [Result.ok.injEq, Next.value.injEq] at e2
          rw [← e2.1]; exact hk2
        cases r with
        | ok n w' =>
          cases n <;> simp only [chnUpon] at h ⊢
          case enter f args => exact h.mono fun e w'' ⟨v, he, hk⟩ => ⟨v, he, key v w'' hk⟩
          all_goals exact key _ _ h
        | halt y w' => simp only [chnUpon] at h
      · simp only [hwj, Bool.false_eq_true, if_false]
        simp only [oStep1, wi undef, hwi, if_true]
        rw [chn_put hsi h3 h2']
        refine chn_mono' (a := a) ?_ h
        intro v w' hk
        refine ⟨hk.1, ?_⟩
        have hk2 := hk.2
        simp only [oStep1, wj v, hwj, Bool.false_eq_true, if_false] at hk2
        exact hk2
  · simp only [hwi, Bool.false_eq_true, if_false] at h
    unfold oStep1
    rw [wj undef] at h
    by_cases hwj : Region.wanted oj (yielded ops a.tmps) = true
    · simp only [hwj, if_true] at h ⊢
      cases cj
      · simp only [Bool.false_eq_true, if_false] at h ⊢
        obtain ⟨u, hu, h⟩ := h
        refine ⟨u, (nj undef u).1 hu, ?_⟩
        simp only [oStep1, wi u, hwi, Bool.false_eq_true, if_false]
        rw [← hcm]; exact h
      · simp only [if_true] at h ⊢
        rw [chn_put hsj h1 h2] at h
        refine chn_mono' (a := a) ?_ h
        intro u w' hk
        refine ⟨hk.1, ?_⟩
        simp only [oStep1, wi u, hwi, Bool.false_eq_true, if_false]
        exact hk.2
    · simp only [hwj, Bool.false_eq_true, if_false] at h ⊢
      simp only [oStep1, wi undef, hwi, Bool.false_eq_true, if_false]
      rw [← hcm]; exact h

/-! The orders -/

theorem oStep_mono {i : Nat} {a : Act} {w : World} {K K' : Act → World → Prop} (h : ∀ a w, K a w → K' a w) (hh : oStep P ops G ch i K a w) : oStep P ops G ch i K' a w := by
  unfold oStep at *
  split
  · simp_all
  · rename_i o ho
    simp only [ho] at hh
    exact oStep1_mono h hh

theorem oStep_some {i : Nat} {a : Act} {w : World} {K : Act → World → Prop} (hh : oStep P ops G ch i K a w) : ∃ a' w', K a' w' := by
  unfold oStep at hh
  split at hh
  · exact ⟨_, _, hh⟩
  · exact oStep1_some hh

/-- The class is kept by the step. -/
theorem oStep_keeps {i : Nat} {a : Act} {w : World} {K : Act → World → Prop} (hG : G w) (hh : oStep P ops G ch i K a w) : oStep P ops G ch i (fun a' w' => G w' ∧ K a' w') a w := by
  unfold oStep at *
  split
  · simp_all
  · rename_i o ho
    simp only [ho] at hh
    unfold oStep1 at *
    split
    · rename_i hw
      simp only [hw, if_true] at hh
      cases hc : ch i
      · simp only [hc, Bool.false_eq_true, if_false] at hh ⊢
        obtain ⟨v, hv, hk⟩ := hh
        exact ⟨v, hv, hG, hk⟩
      · simp only [hc, if_true] at hh ⊢
        exact chn_mono (fun a w hk => ⟨hk.1, hk.1, hk.2⟩) hh
    · rename_i hw
      simp only [hw, Bool.false_eq_true, if_false] at hh
      exact ⟨hG, hh⟩

theorem Oper.wp_of_chn {o : Oper} {a : Act} {w : World} {K : Act → World → Prop} {Q : Exit → Act → World → Prop} (hh : chn P o a w K) : o.wp P a w K Q := by
  unfold chn at hh
  unfold Oper.wp
  generalize (execOp a.eval o).run P w = r at *
  cases r with
  | ok n w' =>
    cases n <;> simp only [chnUpon] at hh <;> simp only [Oper.upon]
    case enter f args => exact hh.mono fun e w'' ⟨v, he, hk⟩ => by subst he; exact hk
    all_goals exact hh
  | halt x w' => simp only [chnUpon] at hh

theorem wpOp_of_oStep {i : Nat} {a : Act} {w : World} {K : Act → World → Prop} {Q : Exit → Act → World → Prop} (hG : G w) (hh : oStep P ops G ch i K a w) : wpOp P ops Q i K a w := by
  unfold oStep at hh
  unfold wpOp
  split
  · simp_all
  · rename_i o ho
    simp only [ho] at hh
    unfold oStep1 at hh
    split
    · rename_i hw
      simp only [hw, if_true] at hh
      cases hc : ch i
      · simp only [hc, Bool.false_eq_true, if_false] at hh
        obtain ⟨v, hv, hk⟩ := hh
        refine .inl ?_
        unfold Oper.wp
        rw [hv w hG]
        exact hk
      · simp only [hc, if_true] at hh
        exact .inl (Oper.wp_of_chn (chn_mono (fun a w hk => hk.2) hh))
    · rename_i hw
      simp only [hw, Bool.false_eq_true, if_false] at hh
      exact hh

variable {md : Region.Mode}

def wpAnyT (P : Program) (md : Region.Mode) (ops : Array Oper) (G : World → Prop) (ch : Nat → Bool) (n : Nat) (L : Array Bool → Act → World → Prop) : Nat → Array Bool → Act → World → Prop
  | 0, listed, a, w => G w ∧ L listed a w
  | f + 1, listed, a, w =>
    G w ∧ Region.ready md ops listed ≠ [] ∧ ∀ i ∈ Region.ready md ops listed, i < n ∧ oStep P ops G ch i (wpAnyT P md ops G ch n L f (listed.setIfInBounds i true)) a w

theorem wpAny_of_T {n g : Nat} {L : Array Bool → Act → World → Prop} {Q' : Exit → Act → World → Prop} (hL : ∀ listed a w, L listed a w → wpAny P md ops Q' g listed a w) :
    ∀ (f : Nat) (listed : Array Bool) (a : Act) (w : World), wpAnyT P md ops G ch n L f listed a w → wpAny P md ops Q' (f + g) listed a w
  | 0, listed, a, w, h => by rw [Nat.zero_add]; exact hL _ _ _ h.2
  | f + 1, listed, a, w, h => by
    rw [show f + 1 + g = (f + g) + 1 by omega]
    exact ⟨fun h0 => absurd h0 h.2.1, fun i hi => wpOp_mono (fun a' w' h' => wpAny_of_T hL f _ a' w' h') (wpOp_of_oStep h.1 (h.2.2 i hi).2)⟩

/-- 'j' waits for 'i', if need be through others. -/
def anc (md : Region.Mode) (ops : Array Oper) : Nat → Nat → Nat → Bool
  | 0, _, _ => false
  | f + 1, j, i =>
    match ops[j]? with
    | some oj => oj.after.any fun e => Region.binds md e && (e.on == i || anc md ops f e.on i)
    | none => false

theorem anc_listed {n : Nat} {listed : Array Bool} (inv : HeadInv md ops n listed) {i : Nat} :
    ∀ (f j : Nat), anc md ops f j i = true → (∀ oj, ops[j]? = some oj → ∀ e ∈ oj.after, Region.binds md e = true → listed.getD e.on false = true) → listed.getD i false = true
  | 0, _, h, _ => by simp [anc] at h
  | f + 1, j, h, hall => by
    unfold anc at h
    split at h
    · rename_i oj hoj
      obtain ⟨e, he, hb⟩ := Array.any_eq_true'.1 h
      simp only [Bool.and_eq_true, Bool.or_eq_true, beq_iff_eq] at hb
      have hl := hall oj hoj e he hb.1
      rcases hb.2 with hon | hanc
      · rw [← hon]; exact hl
      · exact anc_listed inv f e.on hanc (fun o' ho' e' he' hb' => inv.closed e.on o' ho' hl e' he' hb')
    · cases h

/-- No two chain operations before 'n' stand free of each other. -/
def chainOk (md : Region.Mode) (ops : Array Oper) (ch : Nat → Bool) (n : Nat) : Bool :=
  (List.range n).all fun j => !ch j || (List.range j).all fun i => !ch i || anc md ops ops.size j i

theorem chain_spec {n : Nat} (h : chainOk md ops ch n = true) {i j : Nat} (hi : i < n) (hj : j < n) (hij : i ≠ j) (ci : ch i = true) (cj : ch j = true) :
    anc md ops ops.size j i = true ∨ anc md ops ops.size i j = true := by
  have key : ∀ i j, i < j → j < n → ch i = true → ch j = true → anc md ops ops.size j i = true := fun i j hij hj ci cj => by
    have h1 := List.all_eq_true.1 h j (List.mem_range.2 hj)
    simp only [cj, Bool.not_true, Bool.false_or] at h1
    have h2 := List.all_eq_true.1 h1 i (List.mem_range.2 hij)
    simpa only [ci, Bool.not_true, Bool.false_or] using h2
  rcases Nat.lt_or_gt_of_ne hij with h' | h'
  · exact .inl (key i j h' hj ci cj)
  · exact .inr (key j i h' hi cj ci)

theorem not_both_ready {n : Nat} {listed : Array Bool} (hk : chainOk md ops ch n = true) (inv : HeadInv md ops n listed) {i j : Nat} (hin : i < n) (hjn : j < n) (hij : i ≠ j)
    (hi : i ∈ Region.ready md ops listed) (hj : j ∈ Region.ready md ops listed) : ¬ (ch i = true ∧ ch j = true) := by
  rintro ⟨ci, cj⟩
  have ri := mem_ready.1 hi
  have rj := mem_ready.1 hj
  obtain ⟨ui, oi, hoi, alli⟩ := ri
  obtain ⟨uj, oj, hoj, allj⟩ := rj
  rcases chain_spec hk hin hjn hij ci cj with h | h
  · have := anc_listed inv _ _ h (fun o ho e he hb => by
      have : o = oj := Option.some.inj (ho.symm.trans hoj)
      subst this; exact allj e he hb)
    rw [getD_both ui] at this; cases this
  · have := anc_listed inv _ _ h (fun o ho e he hb => by
      have : o = oi := Option.some.inj (ho.symm.trans hoi)
      subst this; exact alli e he hb)
    rw [getD_both uj] at this; cases this

theorem wpAnyT_first {n i : Nat} {oi : Oper} {L : Array Bool → Act → World → Prop} (hi : ops[i]? = some oi) (hsel : ∀ (j : Nat) (o : Oper) cs b, ops[j]? = some o → o.op ≠ .select cs b)
    (htail : ∀ listed, HeadInv md ops n listed → ∀ i, i < n → listed.getD i true = false → ∀ t, n ≤ t → t ∉ Region.ready md ops listed)
    (hk : chainOk md ops ch n = true) (hin : i < n)
    (hdone : ∀ listed a w, L listed a w → ∀ j ∈ Region.ready md ops listed, n ≤ j) :
    ∀ (f : Nat) (listed : Array Bool) (a : Act) (w : World), HeadInv md ops n listed →
      (∀ j oj, ops[j]? = some oj → j ≠ i → listed.getD j true = false → (∀ e ∈ oj.after, Region.binds md e = true → e.on ≠ i) → oi.apart ops oj = true) →
      i ∈ Region.ready md ops listed → G w →
      oStep P ops G ch i (wpAnyT P md ops G ch n L f (listed.setIfInBounds i true)) a w → wpAnyT P md ops G ch n L (f + 1) listed a w := by
  intro f
  induction f with
  | zero =>
    intro listed a w inv _ hr hG H
    have hun := (mem_ready.1 hr).1
    refine ⟨hG, fun h => (by rw [h] at hr; cases hr), fun j hj => ?_⟩
    have hjn : j < n := by
      rcases Nat.lt_or_ge j n with h | h
      · exact h
      · exact absurd hj (htail listed inv i hin hun j h)
    refine ⟨hjn, ?_⟩
    by_cases hji : j = i
    · subst hji; exact H
    · obtain ⟨a', w', _, hL⟩ := oStep_some H
      have := hdone _ _ _ hL j (ready_mono hj hji)
      omega
  | succ f ih =>
    intro listed a w inv hfree hr hG H
    have hun := (mem_ready.1 hr).1
    refine ⟨hG, fun h => (by rw [h] at hr; cases hr), fun j hj => ?_⟩
    have hjn : j < n := by
      rcases Nat.lt_or_ge j n with h | h
      · exact h
      · exact absurd hj (htail listed inv i hin hun j h)
    refine ⟨hjn, ?_⟩
    by_cases hji : j = i
    · subst hji; exact H
    · obtain ⟨hjun, oj, hoj, hall⟩ := mem_ready.1 hj
      have hnot : ∀ e ∈ oj.after, Region.binds md e = true → e.on ≠ i := fun e he hb heq => by
        have h1 := hall e he hb
        rw [heq, getD_both hun] at h1
        cases h1
      have hap := hfree j oj hoj hji hjun hnot
      have H1 : oStep1 P ops G (ch i) oi (fun a' w' => oStep1 P ops G (ch j) oj (wpAnyT P md ops G ch n L f ((listed.setIfInBounds i true).setIfInBounds j true)) a' w') a w := by
        have H0 : oStep1 P ops G (ch i) oi (wpAnyT P md ops G ch n L (f + 1) (listed.setIfInBounds i true)) a w := by
          have := H; unfold oStep at this; simpa only [hi] using this
        refine oStep1_mono (fun a' w' h' => ?_) H0
        have := (h'.2.2 j (ready_mono hj hji)).2
        unfold oStep at this
        simpa only [hoj] using this
      have H2 := oStep1_swap hap (fun cs b => hsel i oi cs b hi) (fun cs b => hsel j oj cs b hoj) (not_both_ready hk inv hin hjn (Ne.symm hji) hr hj) hG H1
      have H3 : oStep P ops G ch j (fun a' w' => oStep1 P ops G (ch i) oi (wpAnyT P md ops G ch n L f ((listed.setIfInBounds i true).setIfInBounds j true)) a' w') a w := by
        unfold oStep; simp only [hoj]; exact H2
      have hfree' : ∀ k ok, ops[k]? = some ok → k ≠ i → (listed.setIfInBounds j true).getD k true = false →
          (∀ e ∈ ok.after, Region.binds md e = true → e.on ≠ i) → oi.apart ops ok = true := fun k ok hk hki hun hno => by
        refine hfree k ok hk hki ?_ hno
        by_cases hjk : j = k
        · subst hjk; exact hjun
        · rw [getD_set_ne true hjk] at hun; exact hun
      refine oStep_mono (fun a' w' h3 => ih (listed.setIfInBounds j true) a' w' (inv.set hj hjn) hfree' (ready_mono hr (Ne.symm hji)) h3.1 ?_) (oStep_keeps hG H3)
      unfold oStep
      simp only [hi]
      rw [Array.setIfInBounds_comm _ _ hji]
      exact h3.2

theorem wpAnyT_lex {n g : Nat} {Lq : Act → World → Prop} (hsel : Region.noSelect ops = true)
    (htail : ∀ listed, HeadInv md ops n listed → ∀ i, i < n → listed.getD i true = false → ∀ t, n ≤ t → t ∉ Region.ready md ops listed)
    (hk : chainOk md ops ch n = true) :
    ∀ (l : List Oper) (k : Nat) (listed : Array Bool) (a : Act) (w : World), (∀ j, j < l.length → l[j]? = ops[k + j]?) → k + l.length = n → HeadInv md ops n listed →
    Region.lexHead md ops g l.length k listed = true → G w → wpT P ops G ch Lq l k a w →
    wpAnyT P md ops G ch n (fun listed' a' w' => Region.seqB md ops g n listed' = true ∧ Lq a' w') l.length listed a w
  | [], k, listed, a, w, _, hkk, _, hB, hG, h => by
    have : k = n := by simpa using hkk
    subst this
    exact ⟨hG, by simpa [Region.lexHead] using hB, h⟩
  | o :: l, k, listed, a, w, hl, hkk, inv, hB, hG, h => by
    have h0 : ops[k]? = some o := by simpa using (hl 0 (by simp)).symm
    simp only [List.length_cons, Region.lexHead, Bool.and_eq_true] at hB
    obtain ⟨⟨hr, hf⟩, hB'⟩ := hB
    have hkn : k < n := by simp only [List.length_cons] at hkk; omega
    have hr' : k ∈ Region.ready md ops listed := by simpa using hr
    have hst : oStep P ops G ch k (wpT P ops G ch Lq l (k + 1)) a w := by unfold oStep; simp only [h0]; exact h
    refine wpAnyT_first h0 (Region.noSelect_spec hsel) htail hk hkn (fun listed' a' w' hL => seqB_ready hL.1) l.length listed a w inv (Region.free_spec h0 hf) hr' hG ?_
    exact oStep_mono (fun a' w' h' => wpAnyT_lex hsel htail hk l (k + 1) _ a' w' (fun j hj => by have := hl (j + 1) (by simp; omega); simpa [Nat.add_assoc, Nat.add_comm 1 j] using this) (by simp only [List.length_cons] at hkk; omega) (inv.set hr' hkn) hB' h'.1 h'.2) (oStep_keeps hG hst)

def textB (ops : Array Oper) (ch : Nat → Bool) (n : Nat) : Bool :=
  Region.noSelect ops && (decide (n = ops.size) || decide (n < ops.size) && Region.sinkB .any ops n && Region.chainB .any ops n) && chainOk .any ops ch n && Region.lexHead .any ops (ops.size - n) n 0 (Array.replicate ops.size false)

/-- THE TEXT's ORDER SERVES: the first 'n' operations in the order of the text, all but the chain's yielding one value in every world of the class; the others, which come behind all of them, one after the other. -/
theorem wp_region_text {id : Nat} {Q : Exit → Act → World → Prop} {a : Act} {w : World} {l : List Oper} (n : Nat) (G : World → Prop) (ch : Nat → Bool) (hm : P.follows .mixedOrders = true)
    (hB : textB l.toArray ch n = true) (hG : G { w with drawn := w.drawn + 1 })
    (h : wpT P l.toArray G ch (fun a' w' => wpList P l.toArray Q (l.drop n) a' w') (l.take n) 0 a { w with drawn := w.drawn + 1 }) : (Code.region id l.toArray true).wp P Q a w := by
  simp only [textB, Bool.and_eq_true, Bool.or_eq_true, decide_eq_true_eq] at hB
  obtain ⟨⟨⟨hsel, hn⟩, hk⟩, hlex⟩ := hB
  have hn' : n ≤ l.length := by
    rcases hn with h | h
    · simp at h; omega
    · have := h.1.1; simp at this; omega
  have htl : (l.take n).length = n := by simp; omega
  have hdl : (l.drop n).length = l.toArray.size - n := by simp
  have htail : ∀ listed, HeadInv .any l.toArray n listed → ∀ i, i < n → listed.getD i true = false → ∀ t, n ≤ t → t ∉ Region.ready .any l.toArray listed := by
    intro listed inv i hi hun t ht
    rcases hn with h | h
    · intro hr
      obtain ⟨_, ot, hot, _⟩ := mem_ready.1 hr
      have := (Array.getElem?_eq_some_iff.1 hot).1
      omega
    · exact tail_waits h.1.2 h.2 h.1.1 inv _ i rfl hi hun t ht
  have inv0 : HeadInv .any l.toArray n (Array.replicate l.toArray.size false) :=
    ⟨by simp, fun j oj _ hl => (by rw [getD_replicate_false] at hl; cases hl), fun t _ ht => getD_in (by simpa using ht) (getD_replicate_false _ _)⟩
  have H := wpAnyT_lex (md := .any) (g := l.toArray.size - n) hsel htail hk (l.take n) 0 _ a _ (fun j hj => by
    have hj' : j < n := by rw [htl] at hj; exact hj
    simp [hj']) (by simpa using htl) inv0 (by rw [htl]; exact hlex) hG h
  refine wp_region_any hm ?_
  have := wpAny_of_T (Q' := Q) (g := l.toArray.size - n) (fun listed a' w' hL => by
    have := wpAny_of_seq (md := .any) (Q' := Q) (l.drop n) n listed a' w' (fun j => by simp [List.getElem?_drop]) (by rw [hdl]; exact hL.1) hL.2
    rwa [hdl] at this) _ _ _ _ H
  rw [htl, show n + (l.toArray.size - n) = l.toArray.size by omega] at this
  exact this
end
end Go.Wk
