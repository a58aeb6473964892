/-
  A region that draws its order, in which calls and allocations may stand free of one another: a plan that says which operations may go first, and where all that are ready have to be tried.
-/
import Derived.Test.YtclligkngjhihaaWkD
namespace Go.Wk
set_option linter.unusedVariables false
set_option linter.unusedSimpArgs false

inductive Plan where
  | done
  | step (k : Nat) (p : Plan)
  | fork (k : Nat) (p : Plan) (q : Plan)
  | last

section
variable {P : Program} {ops : Array Oper} {G : World → Prop} {ch : Nat → Bool} {md : Region.Mode}

/-- 'i' stands before all other chain operations that are not listed, or it is none. -/
def aheadB (md : Region.Mode) (ops : Array Oper) (ch : Nat → Bool) (n : Nat) (listed : Array Bool) (i : Nat) : Bool :=
  !ch i || (List.range n).all fun j => j == i || listed.getD j true || !ch j || anc md ops ops.size j i

theorem wpAnyT_first' {n i : Nat} {oi : Oper} {L : Array Bool → Act → World → Prop} (hi : ops[i]? = some oi) (hsel : ∀ (j : Nat) (o : Oper) cs b, ops[j]? = some o → o.op ≠ .select cs b)
    (htail : ∀ listed, HeadInv md ops n listed → ∀ i, i < n → listed.getD i true = false → ∀ t, n ≤ t → t ∉ Region.ready md ops listed)
    (hin : i < n)
    (hdone : ∀ listed a w, L listed a w → ∀ j ∈ Region.ready md ops listed, n ≤ j) :
    ∀ (f : Nat) (listed : Array Bool) (a : Act) (w : World), HeadInv md ops n listed →
      (∀ j, j < n → j ≠ i → listed.getD j true = false → ch i = true → ch j = true → anc md ops ops.size j i = true) →
      (∀ j oj, ops[j]? = some oj → j ≠ i → listed.getD j true = false → (∀ e ∈ oj.after, Region.binds md e = true → e.on ≠ i) → oi.apart ops oj = true) →
      i ∈ Region.ready md ops listed → G w →
      oStep P ops G ch i (wpAnyT P md ops G ch n L f (listed.setIfInBounds i true)) a w → wpAnyT P md ops G ch n L (f + 1) listed a w := by
  intro f
  induction f with
  | zero =>
    intro listed a w inv _ _ hr hG H
    have hun := (mem_ready.1 hr).1
    refine ⟨hG, fun h => (by rw [h] at hr; cases hr), fun j hj => ?_⟩
    have hjn : j < n := by
      rcases Nat.lt_or_ge j n with h | h
      · exact h
      · exact absurd hj (htail listed inv i hin hun j h)
    refine ⟨hjn, ?_⟩
    by_cases hji : j = i
    · subst hji; exact H
    · obtain ⟨a', w', _, hL⟩ := oStep_some H
      have := hdone _ _ _ hL j (ready_mono hj hji)
      omega
  | succ f ih =>
    intro listed a w inv hk hfree hr hG H
    have hun := (mem_ready.1 hr).1
    refine ⟨hG, fun h => (by rw [h] at hr; cases hr), fun j hj => ?_⟩
    have hjn : j < n := by
      rcases Nat.lt_or_ge j n with h | h
      · exact h
      · exact absurd hj (htail listed inv i hin hun j h)
    refine ⟨hjn, ?_⟩
    by_cases hji : j = i
    · subst hji; exact H
    · obtain ⟨hjun, oj, hoj, hall⟩ := mem_ready.1 hj
      have hnot : ∀ e ∈ oj.after, Region.binds md e = true → e.on ≠ i := fun e he hb heq => by
        have h1 := hall e he hb
        rw [heq, getD_both hun] at h1
        cases h1
      have hap := hfree j oj hoj hji hjun hnot
      have hboth : ¬ (ch i = true ∧ ch j = true) := by
        rintro ⟨ci, cj⟩
        have := anc_listed inv _ _ (hk j hjn hji hjun ci cj) (fun o ho e he hb => by
          have : o = oj := Option.some.inj (ho.symm.trans hoj)
          subst this; exact hall e he hb)
        rw [getD_both hun] at this; cases this
      have H1 : oStep1 P ops G (ch i) oi (fun a' w' => oStep1 P ops G (ch j) oj (wpAnyT P md ops G ch n L f ((listed.setIfInBounds i true).setIfInBounds j true)) a' w') a w := by
        have H0 : oStep1 P ops G (ch i) oi (wpAnyT P md ops G ch n L (f + 1) (listed.setIfInBounds i true)) a w := by
          have := H; unfold oStep at this; simpa only [hi] using this
        refine oStep1_mono (fun a' w' h' => ?_) H0
        have := (h'.2.2 j (ready_mono hj hji)).2
        unfold oStep at this
        simpa only [hoj] using this
      have H2 := oStep1_swap hap (fun cs b => hsel i oi cs b hi) (fun cs b => hsel j oj cs b hoj) hboth hG H1
      have H3 : oStep P ops G ch j (fun a' w' => oStep1 P ops G (ch i) oi (wpAnyT P md ops G ch n L f ((listed.setIfInBounds i true).setIfInBounds j true)) a' w') a w := by
        unfold oStep; simp only [hoj]; exact H2
      have hback : ∀ k, (listed.setIfInBounds j true).getD k true = false → listed.getD k true = false := fun k hun' => by
        by_cases hjk : j = k
        · subst hjk; exact hjun
        · rw [getD_set_ne true hjk] at hun'; exact hun'
      have hfree' : ∀ k ok, ops[k]? = some ok → k ≠ i → (listed.setIfInBounds j true).getD k true = false →
          (∀ e ∈ ok.after, Region.binds md e = true → e.on ≠ i) → oi.apart ops ok = true := fun k ok hk hki hun hno => hfree k ok hk hki (hback k hun) hno
      refine oStep_mono (fun a' w' h3 => ih (listed.setIfInBounds j true) a' w' (inv.set hj hjn) (fun k h1 h2 h3 => hk k h1 h2 (hback k h3)) hfree' (ready_mono hr (Ne.symm hji)) h3.1 ?_) (oStep_keeps hG H3)
      unfold oStep
      simp only [hi]
      rw [Array.setIfInBounds_comm _ _ hji]
      exact h3.2

/-- A fork lists all that are ready, one after the other, and ends in 'last'. -/
def forkKs : Plan → List Nat
  | .fork k _ q => k :: forkKs q
  | _ => []

def planB (md : Region.Mode) (ops : Array Oper) (ch : Nat → Bool) (n g : Nat) : Nat → Array Bool → Plan → Bool
  | 0, listed, .done => Region.seqB md ops g n listed
  | f + 1, listed, .step k p => decide (k < n) && (Region.ready md ops listed).contains k && Region.free md ops listed k && aheadB md ops ch n listed k && planB md ops ch n g f (listed.setIfInBounds k true) p
  | f + 1, listed, .fork k p q => decide (Region.ready md ops listed = forkKs (.fork k p q)) && decide (k < n) && planB md ops ch n g f (listed.setIfInBounds k true) p && forkB md ops ch n g f listed q
  | _, _, _ => false
where forkB (md : Region.Mode) (ops : Array Oper) (ch : Nat → Bool) (n g : Nat) : Nat → Array Bool → Plan → Bool
  | f, listed, .fork k p q => decide (k < n) && planB md ops ch n g f (listed.setIfInBounds k true) p && forkB md ops ch n g f listed q
  | _, _, .last => true
  | _, _, _ => false

def wpP (P : Program) (ops : Array Oper) (G : World → Prop) (ch : Nat → Bool) (Q : Act → World → Prop) : Plan → Act → World → Prop
  | .done, a, w => Q a w
  | .step k p, a, w => oStep P ops G ch k (wpP P ops G ch Q p) a w
  | .fork k p q, a, w => oStep P ops G ch k (wpP P ops G ch Q p) a w ∧ wpP P ops G ch Q q a w
  | .last, _, _ => True

theorem wpP_fork {Q : Act → World → Prop} {n g f : Nat} {listed : Array Bool} {a : Act} {w : World} : ∀ (q : Plan), planB.forkB md ops ch n g f listed q = true → wpP P ops G ch Q q a w →
    ∀ i ∈ forkKs q, ∃ p, i < n ∧ planB md ops ch n g f (listed.setIfInBounds i true) p = true ∧ oStep P ops G ch i (wpP P ops G ch Q p) a w
  | .fork k p q, hB, h, i, hi => by
    simp only [planB.forkB, Bool.and_eq_true, decide_eq_true_eq] at hB
    rcases List.mem_cons.1 hi with rfl | hi
    · exact ⟨p, hB.1.1, hB.1.2, h.1⟩
    · exact wpP_fork q hB.2 h.2 i hi
  | .last, _, _, i, hi => by simp [forkKs] at hi
  | .done, _, _, i, hi => by simp [forkKs] at hi
  | .step _ _, _, _, i, hi => by simp [forkKs] at hi

theorem wpAnyT_plan {n g : Nat} {Lq : Act → World → Prop} (hsel : Region.noSelect ops = true)
    (htail : ∀ listed, HeadInv md ops n listed → ∀ i, i < n → listed.getD i true = false → ∀ t, n ≤ t → t ∉ Region.ready md ops listed) :
    ∀ (f : Nat) (p : Plan) (listed : Array Bool) (a : Act) (w : World), HeadInv md ops n listed → planB md ops ch n g f listed p = true → G w → wpP P ops G ch Lq p a w →
    wpAnyT P md ops G ch n (fun listed' a' w' => Region.seqB md ops g n listed' = true ∧ Lq a' w') f listed a w
  | 0, .done, listed, a, w, inv, hB, hG, h => ⟨hG, by simpa [planB] using hB, h⟩
  | f + 1, .step k p, listed, a, w, inv, hB, hG, h => by
    simp only [planB, Bool.and_eq_true, decide_eq_true_eq] at hB
    obtain ⟨⟨⟨⟨hkn, hr⟩, hf⟩, ha⟩, hB'⟩ := hB
    have hr' : k ∈ Region.ready md ops listed := by simpa using hr
    obtain ⟨_, ok, hok, _⟩ := mem_ready.1 hr'
    refine wpAnyT_first' hok (Region.noSelect_spec hsel) htail hkn (fun listed' a' w' hL => seqB_ready hL.1) f listed a w inv (fun j hj hjk hun ci cj => ?_) (Region.free_spec hok hf) hr' hG ?_
    · simp only [aheadB, ci, Bool.not_true, Bool.false_or] at ha
      have := List.all_eq_true.1 ha j (List.mem_range.2 hj)
      simpa [hjk, hun, cj] using this
    · exact oStep_mono (fun a' w' h' => wpAnyT_plan hsel htail f p _ a' w' (inv.set hr' hkn) hB' h'.1 h'.2) (oStep_keeps hG h)
  | f + 1, .fork k p q, listed, a, w, inv, hB, hG, h => by
    simp only [planB, Bool.and_eq_true, decide_eq_true_eq] at hB
    obtain ⟨⟨⟨hr, hkn⟩, hB1⟩, hB2⟩ := hB
    refine ⟨hG, by rw [hr]; simp [forkKs], fun i hi => ?_⟩
    have key : ∃ p, i < n ∧ planB md ops ch n g f (listed.setIfInBounds i true) p = true ∧ oStep P ops G ch i (wpP P ops G ch Lq p) a w := by
      have hi' := hi
      rw [hr] at hi'
      rcases List.mem_cons.1 hi' with rfl | hi'
      · exact ⟨p, hkn, hB1, h.1⟩
      · exact wpP_fork q hB2 h.2 i hi'
    obtain ⟨p', hin, hB', hst⟩ := key
    exact ⟨hin, oStep_mono (fun a' w' h' => wpAnyT_plan hsel htail f p' _ a' w' (inv.set hi hin) hB' h'.1 h'.2) (oStep_keeps hG hst)⟩
  | 0, .step _ _, _, _, _, _, hB, _, _ => by simp [planB] at hB
  | 0, .fork _ _ _, _, _, _, _, hB, _, _ => by simp [planB] at hB
  | 0, .last, _, _, _, _, hB, _, _ => by simp [planB] at hB
  | f + 1, .done, _, _, _, _, hB, _, _ => by simp [planB] at hB
  | f + 1, .last, _, _, _, _, hB, _, _ => by simp [planB] at hB

def textP (ops : Array Oper) (ch : Nat → Bool) (n : Nat) (p : Plan) : Bool :=
  Region.noSelect ops && (decide (n = ops.size) || decide (n < ops.size) && Region.sinkB .any ops n && Region.chainB .any ops n) && planB .any ops ch n (ops.size - n) n (Array.replicate ops.size false) p

theorem wp_region_plan {id : Nat} {Q : Exit → Act → World → Prop} {a : Act} {w : World} {l : List Oper} (n : Nat) (G : World → Prop) (ch : Nat → Bool) (p : Plan) (hm : P.follows .mixedOrders = true)
    (hB : textP l.toArray ch n p = true) (hG : G { w with drawn := w.drawn + 1 })
    (h : wpP P l.toArray G ch (fun a' w' => wpList P l.toArray Q (l.drop n) a' w') p a { w with drawn := w.drawn + 1 }) : (Code.region id l.toArray true).wp P Q a w := by
  simp only [textP, Bool.and_eq_true, Bool.or_eq_true, decide_eq_true_eq] at hB
  obtain ⟨⟨hsel, hn⟩, hpl⟩ := hB
  have hn' : n ≤ l.length := by
    rcases hn with h | h
    · simp at h; omega
    · have := h.1.1; simp at this; omega
  have hdl : (l.drop n).length = l.toArray.size - n := by simp
  have htail : ∀ listed, HeadInv .any l.toArray n listed → ∀ i, i < n → listed.getD i true = false → ∀ t, n ≤ t → t ∉ Region.ready .any l.toArray listed := by
    intro listed inv i hi hun t ht
    rcases hn with h | h
    · intro hr
      obtain ⟨_, ot, hot, _⟩ := mem_ready.1 hr
      have := (Array.getElem?_eq_some_iff.1 hot).1
      omega
    · exact tail_waits h.1.2 h.2 h.1.1 inv _ i rfl hi hun t ht
  have inv0 : HeadInv .any l.toArray n (Array.replicate l.toArray.size false) :=
    ⟨by simp, fun j oj _ hl => (by rw [getD_replicate_false] at hl; cases hl), fun t _ ht => getD_in (by simpa using ht) (getD_replicate_false _ _)⟩
  have H := wpAnyT_plan (md := .any) (g := l.toArray.size - n) hsel htail n p _ a _ inv0 hpl hG h
  refine wp_region_any hm ?_
  have := wpAny_of_T (Q' := Q) (g := l.toArray.size - n) (fun listed a' w' hL => by
    have := wpAny_of_seq (md := .any) (Q' := Q) (l.drop n) n listed a' w' (fun j => by simp [List.getElem?_drop]) (by rw [hdl]; exact hL.1) hL.2
    rwa [hdl] at this) _ _ _ _ H
  rw [show n + (l.toArray.size - n) = l.toArray.size by omega] at this
  exact this
end

structure WP (P : Program) (ops : Array Oper) (G : World → Prop) (ch : Nat → Bool) (Q : Act → World → Prop) (p : Plan) (a : Act) (w : World) : Prop where
  out : wpP P ops G ch Q p a w

section
variable {P : Program} {ops : Array Oper} {G : World → Prop} {ch : Nat → Bool} {Q : Act → World → Prop} {p q : Plan} {a : Act} {w : World} {k : Nat}
theorem p_done (h : Q a w) : WP P ops G ch Q .done a w := ⟨h⟩
theorem p_last : WP P ops G ch Q .last a w := ⟨trivial⟩
theorem p_step {o : Oper} (ho : ops.toList[k]? = some o) (h : WT P ops G (fun _ => ch k) (fun a' w' => WP P ops G ch Q p a' w') [o] 0 a w) : WP P ops G ch Q (.step k p) a w := by
  refine ⟨?_⟩
  show oStep P ops G ch k (wpP P ops G ch Q p) a w
  have ho' : ops[k]? = some o := by simpa using ho
  unfold oStep
  simp only [ho']
  exact oStep1_mono (fun a' w' h' => WP.out h') h.out
theorem p_fork (h1 : WP P ops G ch Q (.step k p) a w) (h2 : WP P ops G ch Q q a w) : WP P ops G ch Q (.fork k p q) a w := ⟨⟨h1.out, h2.out⟩⟩
/-- A region that draws its order, by a plan. -/
theorem rgP {id : Nat} {l : List Oper} {Q : Exit → Act → World → Prop} (m : Nat) (G : World → Prop) (ch : Nat → Bool) (p : Plan) (hm : P.follows .mixedOrders = true) (hB : textP l.toArray ch m p = true)
    (h : ∀ w1, Ext w w1 → w1.heap.size = w.heap.size → G w1 ∧ WP P l.toArray G ch (fun a' w' => WL P l.toArray Q (l.drop m) a' w') p a w1) : (Code.region id l.toArray true).wp P Q a w := by
  have h1 := h _ (Out.drew w) rfl
  refine wp_region_plan m G ch p hm hB h1.1 ?_
  have mono : ∀ (p : Plan) (a : Act) (w : World), wpP P l.toArray G ch (fun a' w' => WL P l.toArray Q (l.drop m) a' w') p a w → wpP P l.toArray G ch (fun a' w' => wpList P l.toArray Q (l.drop m) a' w') p a w := by
    intro p
    induction p with
    | done => exact fun a w h => h.out
    | last => exact fun _ _ _ => trivial
    | step k p ih => exact fun a w h => oStep_mono (fun a' w' h' => ih a' w' h') h
    | fork k p q ih1 ih2 => exact fun a w h => ⟨oStep_mono (fun a' w' h' => ih1 a' w' h') h.1, ih2 a w h.2⟩
  exact mono p a _ h1.2.out
end
end Go.Wk
