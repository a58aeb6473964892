/-
  The source of choices that the statements' makers read from, as it lies in memory; the number that a choice is turned into.
-/
import Derived.Test.YtclligkngjhihaaBase
namespace Go.Wk
set_option linter.unusedVariables false
set_option linter.unusedSimpArgs false

def pick (v n : Int) : Int := (v % 18446744073709551616) % n

theorem pick_rng (v n : Int) (h : 1 ≤ n) : 0 ≤ pick v n ∧ pick v n < n := ⟨Int.emod_nonneg _ (by omega), Int.emod_lt_of_pos _ (by omega)⟩

theorem pick_run (v n : Int) (h1 : 1 ≤ n) (h2 : n ≤ 9223372036854775807) : IntKind.i64.wrap ((IntKind.u64.wrap v).tmod (IntKind.u64.wrap n)) = pick v n := by
  have e1 : IntKind.u64.wrap v = v % 18446744073709551616 := by simp [IntKind.wrap, IntKind.signed, IntKind.bits]
  have e2 : IntKind.u64.wrap n = n := IntWalk.u64_in n (by omega)
  have h0 : 0 ≤ v % 18446744073709551616 := Int.emod_nonneg _ (by decide)
  have hr := pick_rng v n h1
  unfold pick at hr
  rw [e1, e2, Int.tmod_eq_emod_of_nonneg h0]
  exact IntWalk.i64_in _ (by omega)

def RngTo (p : Int) (k : Nat) (x : List Int) : Prop := ∀ i, i < k → 0 ≤ x.getD i 0 ∧ x.getD i 0 < p
theorem RngTo.zero (p : Int) (x : List Int) : RngTo p 0 x := fun i hi => by omega
theorem RngTo.set {p r : Int} {k : Nat} {x : List Int} (h : RngTo p k x) (hk : k < x.length) (h0 : 0 ≤ r) (h1 : r < p) : RngTo p (k + 1) (x.set k r) := by
  intro i hi
  by_cases hik : i = k
  · subst hik; simp [List.getD_eq_getElem?_getD, hk]; exact ⟨h0, h1⟩
  · have := h i (by omega)
    simpa [List.getD_eq_getElem?_getD, List.getElem?_set_ne (Ne.symm hik)] using this
theorem RngTo.all {p : Int} {k : Nat} {x : List Int} (h : RngTo p k x) (hk : x.length ≤ k) : ∀ y ∈ x, 0 ≤ y ∧ y < p := by
  intro y hy
  obtain ⟨i, hi, rfl⟩ := List.mem_iff_getElem.1 hy
  have := h i (by omega)
  simpa [List.getD_eq_getElem?_getD, hi] using this

/-- Block 'b' is a source: a list that lies in blocks of [lo, hi), and a place in it. -/
def Src (lo hi b : Nat) (w : World) : Prop :=
  ∃ (al : Option Addr) (cl : Nat) (l : List Int) (ps : Int), Blk w b [.slice al l.length cl, .int .i64 ps] ∧ Ints lo hi w al l ∧ 0 ≤ ps ∧ ps ≤ l.length ∧ (l.length : Int) ≤ 9223372036854775807

theorem Src.out {lo hi b : Nat} {w w' : World} {a c : Nat} (h : Src lo hi b w) (ho : Out a c w w') (hs : c ≤ a ∨ ((hi ≤ a ∨ c ≤ lo) ∧ (b < a ∨ c ≤ b))) : Src lo hi b w' := by
  obtain ⟨al, cl, l, ps, h1, h2, h3⟩ := h
  exact ⟨al, cl, l, ps, h1.out ho (by omega), Sl.out h2 ho (by omega), h3⟩
theorem Src.ext {lo hi b : Nat} {w w' : World} (h : Src lo hi b w) (ho : Ext w w') : Src lo hi b w' := h.out ho (.inl (Nat.le_refl _))
theorem Src.lt {lo hi b : Nat} {w : World} (h : Src lo hi b w) : b < w.heap.size := by
  obtain ⟨al, cl, l, ps, h1, _⟩ := h; exact h1.lt
def SmallNet (N : Net) : Prop := NetOk N ∧ 2 ≤ N.p ∧ N.p ≤ 9 ∧ 1 ≤ N.evs.length ∧ N.evs.length ≤ 5 ∧ N.acts.length ≤ 8 ∧ ∀ a ∈ N.acts, -9 ≤ a.mn ∧ a.mn ≤ 18
theorem AcOk.re {N N' : Net} {a : Ac} (h : AcOk N a) (hp : N'.p = N.p) (he : N'.evs = N.evs) : AcOk N' a := by
  obtain ⟨h1, h2, h3, h4, h5, h6, h7, h8, h9, h10, h11⟩ := h
  exact ⟨h1, by rw [he]; exact h2, h3, by rw [he]; exact h4, h5, h6, h7, h8, by rw [hp]; exact h9, h10, h11⟩
theorem acok_mk {p : Int} {evs : List Ev} {acts : List Ac} {kd fr tt mn mx wt : Int} (h1 : 0 ≤ fr) (h2 : fr < evs.length) (h3 : 0 ≤ tt) (h4 : tt < evs.length) (h5 : fr ≠ tt) (h6 : -65536 ≤ mn) (h7 : mn ≤ mx) (h8 : mx ≤ 65536) (h9 : mx - mn < p) (h10 : 0 ≤ wt) (h11 : wt ≤ 1048576) : AcOk ⟨p, evs, acts⟩ ⟨kd, fr, tt, mn, mx, wt⟩ :=
  ⟨h1, h2, h3, h4, h5, h6, h7, h8, h9, h10, h11⟩
theorem all_push {P : Ac → Prop} {l : List Ac} {a : Ac} (h : ∀ x ∈ l, P x) (ha : P a) : ∀ x ∈ l ++ [a], P x := by
  intro x hx
  rcases List.mem_append.1 hx with h1 | h1
  · exact h x h1
  · simp at h1; rw [h1]; exact ha
theorem other_rem (f r m : Int) (h0 : 0 ≤ f) (h1 : f < m) (h2 : 0 ≤ r) (h3 : r < m - 1) : 0 ≤ (f + 1 + r).tmod m ∧ (f + 1 + r).tmod m < m ∧ f ≠ (f + 1 + r).tmod m := by
  rw [Int.tmod_eq_emod_of_nonneg (by omega)]
  refine ⟨Int.emod_nonneg _ (by omega), Int.emod_lt_of_pos _ (by omega), ?_⟩
  by_cases h : f + 1 + r < m
  · rw [Int.emod_eq_of_lt (by omega) h]; omega
  · have e : (f + 1 + r) % m = f + 1 + r - m := by
      rw [← Int.sub_emod_right, Int.emod_eq_of_lt (by omega) (by omega)]
    rw [e]; omega

def widen (p : Int) (a : Ac) : Ac := { a with mx := a.mn + p - 1 }
def WideNet (N : Net) : Prop := SmallNet N ∧ ∀ a ∈ N.acts, a.mx = a.mn + N.p - 1

theorem wide_set {p : Int} {acts : List Ac} {k : Nat} (hk : k < acts.length) :
    (((acts.take k).map (widen p)) ++ acts.drop k).set k (widen p (el acts (k : Int))) = ((acts.take (k + 1)).map (widen p)) ++ acts.drop (k + 1) := by
  have he : el acts (k : Int) = acts[k] := by simp [el, hk]
  rw [he, List.take_succ_eq_append_getElem hk, List.map_append, List.drop_eq_getElem_cons hk]
  have hl : ((acts.take k).map (widen p)).length = k := by simp; omega
  rw [List.set_append_right _ _ (by omega), hl, Nat.sub_self, List.set_cons_zero, List.append_assoc]
  rfl
theorem wide_el {p : Int} {acts : List Ac} {k : Nat} (hk : k < acts.length) : el (((acts.take k).map (widen p)) ++ acts.drop k) (k : Int) = el acts (k : Int) := by
  have hl : ((acts.take k).map (widen p)).length = k := by simp; omega
  simp only [el, Int.toNat_natCast, List.getD_eq_getElem?_getD]
  rw [List.getElem?_append_right (by omega), hl, Nat.sub_self, List.getElem?_drop, Nat.add_zero]
theorem wide_len {p : Int} {acts : List Ac} {k : Nat} (_hk : k ≤ acts.length) : (((acts.take k).map (widen p)) ++ acts.drop k).length = acts.length := by simp; omega

theorem wide_net {N : Net} (h : SmallNet N) : WideNet ⟨N.p, N.evs, N.acts.map (widen N.p)⟩ := by
  obtain ⟨hok, h2, h9, h1, h5, h8, hmn⟩ := h
  have hm : ∀ a ∈ N.acts.map (widen N.p), ∃ b ∈ N.acts, a = widen N.p b := fun a ha => by
    obtain ⟨b, hb, e⟩ := List.mem_map.1 ha; exact ⟨b, hb, e.symm⟩
  refine ⟨⟨⟨hok.p2, hok.p7, hok.ev, by simpa using hok.ac, fun a ha => ?_⟩, h2, h9, h1, h5, by simpa using h8, fun a ha => ?_⟩, fun a ha => ?_⟩
  · obtain ⟨b, hb, rfl⟩ := hm a ha
    have ok := hok.acs b hb
    have := hmn b hb
    refine ⟨ok.f0, ok.f1, ok.t0, ok.t1, ok.ne, ok.m0, ?_, ?_, ?_, ok.w0, ok.w1⟩
    · simp only [widen]; omega
    · simp only [widen]; omega
    · simp only [widen]; omega
  · obtain ⟨b, hb, rfl⟩ := hm a ha; exact hmn b hb
  · obtain ⟨b, hb, rfl⟩ := hm a ha; rfl

/-- Good times of such a network are feasible. -/
theorem wide_feas {N : Net} {t : List Int} (h : WideNet N) (hl : t.length = N.evs.length) (hr : ∀ y ∈ t, 0 ≤ y ∧ y < N.p) : GoodT N t ∧ feas N t = true := by
  have hg : GoodT N t := ⟨h.1.1, hl, hr⟩
  refine ⟨hg, ?_⟩
  unfold feas
  rw [goodT_iff.2 hg, Bool.true_and, List.all_eq_true]
  intro a ha
  have h1 := h.2 a ha
  have h3 := h.1.1.p2
  have h2 := Int.emod_lt_of_pos (el t a.tt - el t a.fr - a.mn) (show 0 < N.p by omega)
  show decide (durA N t a ≤ a.mx) = true
  rw [decide_eq_true_eq]
  unfold durA
  omega
end Go.Wk
