/-
  Walks of the functions, printed by a program out of the code and the loops' relations.
-/
import Derived.Test.YtdgkaahghlbocaaWkD
import Derived.Test.YtdgkaahghlbocaaProg
import Derived.KernelRfl
import Derived.Test.YtdgkaahghlbocaaE1
import Derived.Test.YtdgkaahghlbocaaCy
namespace Go.Proofs.Ytdgkaahghlbocaa
open Go.Wk Go.RowKit
set_option linter.unusedVariables false
set_option linter.unusedSimpArgs false
theorem cl52 : Callable Try.prog 52 := ⟨Try.call52⟩
theorem fld37_0 : FieldOf Try.prog 37 0 0 := fun b o w => by simp [Instr.fieldAt, fieldPlace, Instr.sureAddr, Addr.add_lit]
theorem fld37_1 : FieldOf Try.prog 37 1 1 := fun b o w => by simp [Instr.fieldAt, fieldPlace, Instr.sureAddr, Addr.add_lit]
set_option maxRecDepth 100000 in
theorem info4 : ∃ i, Try.prog.info? 4 = some i ∧ i.zero = some (.bool false) ∧ i.size = 1 ∧ i.bytes = 1 := ⟨Try.t4, Try.type4, rfl, rfl, rfl⟩
theorem na4 : NotAgg Try.prog 4 := Try.isAgg4
theorem sl66 : SliceOf Try.prog 66 4 1 := ⟨Try.underlying66, Try.sizeOf4⟩
theorem sz4 : SzOf Try.prog 4 1 := Try.sizeOf4

def endS (a : Ac) (s : Int) : Int := if s < 0 then a.tt else a.fr
def endE (a : Ac) (s : Int) : Int := if s < 0 then a.fr else a.tt
theorem st_rng {N : Net} {arcs signs : List Int} {k : Nat} (hN : NetOk N) (h0 : 0 ≤ el arcs (k : Int)) (h1 : el arcs (k : Int) < N.acts.length) : 0 ≤ stK N arcs signs k ∧ stK N arcs signs k < N.evs.length := by
  have ok := hN.acs _ (el_mem h0 h1)
  unfold stK cySt
  split
  · exact ⟨ok.t0, ok.t1⟩
  · exact ⟨ok.f0, ok.f1⟩
theorem atK_succ {N : Net} {arcs signs : List Int} {k : Nat} : atK N arcs signs (k + 1) = enK N arcs signs k := by unfold atK; rw [if_neg (by omega)]; rfl
def inR (N : Net) (vals : List Int) : Bool := decide (vals.length = N.acts.length) && vals.all (fun v => decide (-131072 ≤ v ∧ v ≤ 131072))
theorem inR_iff {N : Net} {vals : List Int} : inR N vals = true ↔ vals.length = N.acts.length ∧ ∀ k : Nat, k < vals.length → -131072 ≤ el vals (k : Int) ∧ el vals (k : Int) ≤ 131072 := by
  unfold inR
  simp only [Bool.and_eq_true, decide_eq_true_eq, List.all_eq_true]
  constructor
  · rintro ⟨h1, h2⟩; exact ⟨h1, fun k hk => h2 _ (el_mem (by omega) (by omega))⟩
  · rintro ⟨h1, h2⟩
    refine ⟨h1, fun x hx => ?_⟩
    obtain ⟨i, hi, rfl⟩ := List.getElem_of_mem hx
    have := h2 i hi
    simpa [el, hi] using this
theorem inR_len {N : Net} {vals : List Int} (h : ¬ (vals.length : Int) = N.acts.length) : inR N vals = false := by
  cases e : inR N vals with
  | false => rfl
  | true => have := (inR_iff.1 e).1; omega
theorem inR_at {N : Net} {vals : List Int} {k : Nat} (hk : k < vals.length) (h : ¬ (-131072 ≤ el vals (k : Int) ∧ el vals (k : Int) ≤ 131072)) : inR N vals = false := by
  cases e : inR N vals with
  | false => rfl
  | true => exact absurd ((inR_iff.1 e).2 k hk) h
theorem tot_rng {N : Net} {arcs signs vals : List Int} (hc : CyA N arcs signs arcs.length) (hr : inR N vals = true) : ∀ k : Nat, k ≤ arcs.length → -(131072 * (k : Int)) ≤ totC arcs signs vals k ∧ totC arcs signs vals k ≤ 131072 * (k : Int)
  | 0, _ => by simp [totC]
  | k + 1, hk => by
    have ih := tot_rng hc hr k (by omega)
    obtain ⟨h0, h1, h2⟩ := hc.rng k (by omega)
    obtain ⟨r1, r2⟩ := inR_iff.1 hr
    have hv := r2 (el arcs (k : Int)).toNat (by omega)
    rw [Int.toNat_of_nonneg h0] at hv
    unfold totC
    rcases h2 with e | e <;> rw [e] <;> omega
def tenL (N : Net) (t : List Int) : List Int := if goodT N t = true then N.acts.map (durA N t) else []
def tenE (N : Net) (t : List Int) : Int := if goodT N t = true then 0 else 1

set_option maxRecDepth 100000 in
theorem cycles_ends_ok (a : Ac) (s : Int) (w : World) : Cal Try.prog 52 [.agg (encAc a).toArray, .int .i64 s] w (fun v w' => v = .tuple #[.int .i64 (endS a s), .int .i64 (endE a s)] ∧ Ext w w') := by
 have hE : Out 0 0 w w := Out.refl _ _ w
 refine enter Try.func52 rfl Try.ntmps52 rfl ?_
 refine wp_seq ?_
 refine rg ?_
 refine sd (d_boxA rfl ?_)
 intro b2 w1 hbb2 hs3 ho2 hb2
 have hz4 := ho2.size
 replace hE := hE.step ho2 (.inl (Nat.le_refl _))
 refine st (asI rfl) ?_
 refine st (asI rfl) ?_
 refine rg_end ?_
 refine n_then ?_
 refine wp_seq ?_
 refine wp_seq ?_
 refine rg ?_
 refine st (mvI rfl) ?_
 refine st (y_lss rfl rfl) ?_
 refine rg_end ?_
 refine n_then ?_
 refine cnd rfl (fun hc0 => ?_) (fun hc0 => ?_)
 ·
  try simp only [nm] at hc0
  have e1 : endS a s = a.tt := if_pos hc0
  have e2 : endE a s = a.fr := if_pos hc0
  refine wp_seq ?_
  refine rgD 5 (fun w_ => Ext w1 w_) (fun i => false) mixed (by kernel_rfl) ?_
  intro w5 ho6 hs7
  refine ⟨ho6, ?_⟩
  have hx8 := ho6
  refine tn rfl (fun _ hG => y_fld fld43_2 rfl) ?_
  refine tn rfl (fun _ hG => y_lb (hb2.ext hG) na3 rfl rfl) ?_
  refine tn rfl (fun _ hG => y_fld fld43_1 rfl) ?_
  refine tn rfl (fun _ hG => y_lb (hb2.ext hG) na3 rfl rfl) ?_
  refine tn rfl (fun _ hG => asI rfl) ?_
  refine t_end ?_
  have hz9 := hx8.size
  replace hE := hE.step hx8 (.inl (Nat.le_refl _))
  replace hb2 := hb2.ext hx8
  refine st (asI rfl) ?_
  refine rg_end ?_
  refine n_then ?_
  refine wp_ret ?_
  refine r_then (ret2 (v := (.int .i64 _)) (v' := (.int .i64 _)) Try.results52 rfl rfl ?_)
  rw [e1, e2]
  exact ⟨rfl, hE⟩
 ·
  try simp only [nm] at hc0
  have e1 : endS a s = a.fr := if_neg hc0
  have e2 : endE a s = a.tt := if_neg hc0
  refine wp_skip ?_
  refine n_then ?_
  refine wp_seq ?_
  refine rgD 5 (fun w_ => Ext w1 w_) (fun i => false) mixed (by kernel_rfl) ?_
  intro w10 ho11 hs12
  refine ⟨ho11, ?_⟩
  have hx13 := ho11
  refine tn rfl (fun _ hG => y_fld fld43_1 rfl) ?_
  refine tn rfl (fun _ hG => y_lb (hb2.ext hG) na3 rfl rfl) ?_
  refine tn rfl (fun _ hG => y_fld fld43_2 rfl) ?_
  refine tn rfl (fun _ hG => y_lb (hb2.ext hG) na3 rfl rfl) ?_
  refine tn rfl (fun _ hG => asI rfl) ?_
  refine t_end ?_
  have hz14 := hx13.size
  replace hE := hE.step hx13 (.inl (Nat.le_refl _))
  replace hb2 := hb2.ext hx13
  refine st (asI rfl) ?_
  refine rg_end ?_
  refine n_then ?_
  refine wp_ret ?_
  refine ret2 (v := (.int .i64 _)) (v' := (.int .i64 _)) Try.results52 rfl rfl ?_
  rw [e1, e2]
  exact ⟨rfl, hE⟩

set_option maxRecDepth 100000 in
theorem cycles_inRange_ok (N : Net) (A : NetA) (lo hi : Nat) (vals : List Int) (av : Option Addr) (cv lv hv_ : Nat) (w : World) (hN : NetIn lo hi w N A) (hV : Ints lv hv_ w av vals) (hn : (vals.length : Int) ≤ 9223372036854775807) : Cal Try.prog 45 [netV N A, .slice av vals.length cv] w (fun v w' => v = .bool (inR N vals) ∧ Ext w w') := by
 replace hN := hN.full
 replace hV := Ints.full hV
 have hE : Out 0 0 w w := Out.refl _ _ w
 refine enter Try.func45 rfl Try.ntmps45 rfl ?_
 refine wp_seq ?_
 refine rg ?_
 refine sd (d_boxA rfl ?_)
 intro b2 w1 hbb2 hs3 ho2 hb2
 have hz4 := ho2.size
 replace hN := hN.ext ho2
 replace hV := hV.ext ho2
 replace hE := hE.step ho2 (.inl (Nat.le_refl _))
 refine st (asB rfl) ?_
 refine rg_end ?_
 refine n_then ?_
 refine wp_seq ?_
 refine wp_seq ?_
 refine rg ?_
 refine st (mvS rfl) ?_
 refine st (y_len Try.underlying22 rfl) ?_
 refine st (y_fld fld26_2 rfl) ?_
 refine st (y_lb hb2 na24 rfl rfl) ?_
 refine st (y_len Try.underlying24 rfl) ?_
 refine st (y_neq rfl rfl) ?_
 refine rg_end ?_
 refine n_then ?_
 refine cnd rfl (fun hc0 => ?_) (fun hc0 => ?_)
 ·
  try simp only [nm] at hc0
  have hf := inR_len hc0
  refine wp_seq ?_
  refine rg ?_
  refine st (asB rfl) ?_
  refine rg_end ?_
  refine n_then ?_
  refine wp_ret ?_
  refine r_then (ret1 (v := (.bool _)) Try.results45 rfl ?_)
  exact ⟨by rw [hf], hE⟩
 ·
  try simp only [nm] at hc0
  refine wp_skip ?_
  refine n_then ?_
  refine wp_seq ?_
  refine wp_seq ?_
  refine rg ?_
  refine st (mvS rfl) ?_
  refine st (y_len Try.underlying22 rfl) ?_
  refine st (mvI rfl) ?_
  refine rg_end ?_
  refine n_then ?_
  refine wp_block ?_
  refine lp (γ := Nat) [4, 6, 15, 16, 17, 18, 19, 20, 21, 22, 23, 24, 25] (fun k => [(15, .int .i64 (k : Int))]) (fun k w_ => Ext w1 w_ ∧ (k : Int) ≤ vals.length ∧ ∀ q : Nat, q < k → -131072 ≤ el vals (q : Int) ∧ el vals (q : Int) ≤ 131072) (fun k => vals.length - k) 0 ⟨rfl, trivial⟩ ⟨Out.refl _ _ _, by omega, fun q hq => by omega⟩ ?_
  rintro k hav_ w5 ⟨ho6, hk, hall⟩
  have hlp0 := ho6
  have hz7 := ho6.size
  replace hN := hN.ext ho6
  replace hV := hV.ext ho6
  replace hE := hE.step ho6 (.inl (Nat.le_refl _))
  replace hb2 := hb2.ext ho6
  refine wp_seq ?_
  refine rg ?_
  refine st (y_lss rfl rfl) ?_
  refine rg_end ?_
  refine n_then ?_
  refine wp_seq ?_
  refine cnd rfl (fun hc1 => ?_) (fun hc1 => ?_)
  ·
   try simp only [nm] at hc1
   refine wp_skip ?_
   refine n_then ?_
   refine wp_seq ?_
   refine wp_block ?_
   refine wp_seq ?_
   refine rg ?_
   refine st (y_ix hV sl22 rfl (rfl) rfl (by omega) (by omega)) ?_
   refine st (y_le hV na3 rfl (by omega) (by omega) rfl) ?_
   refine st (asI rfl) ?_
   refine rg_end ?_
   refine n_then ?_
   refine wp_seq ?_
   refine rg ?_
   refine st (mvI rfl) ?_
   refine st (y_lss rfl rfl) ?_
   refine st (mvB rfl) ?_
   refine gspL 21 rfl (fun hg8 => ?_) (fun hg8 => ?_)
   ·
    have hg8n := hg8; try simp only [nm] at hg8n
    refine sts rfl rfl hg8 ?_
    refine sts rfl rfl hg8 ?_
    refine st (y_pickT rfl hg8 (v := .bool _) rfl) ?_
    refine rg_end ?_
    refine n_then ?_
    refine cnd rfl (fun hc2 => ?_) (fun hc2 => absurd hc2 (by decide))
    have hf : inR N vals = false := inR_at (k := k) (by omega) (by omega)
    refine wp_seq ?_
    refine rg ?_
    refine st (asB rfl) ?_
    refine rg_end ?_
    refine n_then ?_
    refine wp_ret ?_
    refine r_blk (r_then (r_then (r_blk (r_then (ret1 (v := (.bool _)) Try.results45 rfl ?_)))))
    exact ⟨by rw [hf], hE⟩
   ·
    have hg8n := hg8; try simp only [nm] at hg8n
    refine stg rfl rfl hg8 (mvI rfl) ?_
    refine stg rfl rfl hg8 (y_gtr rfl rfl) ?_
    refine st (y_pickF rfl hg8 (v := .bool _) rfl) ?_
    refine rg_end ?_
    refine n_then ?_
    refine cnd rfl (fun hc2 => ?_) (fun hc2 => ?_)
    ·
     try simp only [nm] at hc2
     have hf : inR N vals = false := inR_at (k := k) (by omega) (by omega)
     refine wp_seq ?_
     refine rg ?_
     refine st (asB rfl) ?_
     refine rg_end ?_
     refine n_then ?_
     refine wp_ret ?_
     refine r_blk (r_then (r_then (r_blk (r_then (ret1 (v := (.bool _)) Try.results45 rfl ?_)))))
     exact ⟨by rw [hf], hE⟩
    ·
     try simp only [nm] at hc2
     have hall1 : ∀ q : Nat, q < k + 1 → -131072 ≤ el vals (q : Int) ∧ el vals (q : Int) ≤ 131072 := fun q hq => by
       by_cases e : q = k
       · subst e; omega
       · exact hall q (by omega)
     refine wp_skip ?_
     refine n_blk ?_
     refine n_then ?_
     refine rg ?_
     refine st (y_add rfl rfl (by omega)) ?_
     refine st (mvI rfl) ?_
     refine rg_end ?_
     exact n_then ⟨k + 1, _, rfl, same_lk rfl (same_h0), ⟨rfl, trivial⟩, ⟨hlp0, by omega, hall1⟩, by first | omega | (dsimp only; omega)⟩
  ·
   try simp only [nm] at hc1
   have hf : inR N vals = true := inR_iff.2 ⟨by omega, fun q hq => hall q (by omega)⟩
   refine wp_exit ?_
   refine e_then (e_then (e_blk (?_)))
   refine n_then ?_
   refine wp_seq ?_
   refine rg ?_
   refine st (asB rfl) ?_
   refine rg_end ?_
   refine n_then ?_
   refine wp_ret ?_
   refine ret1 (v := (.bool _)) Try.results45 rfl ?_
   exact ⟨by rw [hf], hE⟩

set_option maxHeartbeats 2000000 in
set_option maxRecDepth 100000 in
theorem cycles_Check_ok (N : Net) (A : NetA) (lo hi : Nat) (arcs signs : List Int) (aa : Option Addr) (ca la ha_ : Nat) (ag : Option Addr) (cg lg hg_ : Nat) (w : World) (hN : NetIn lo hi w N A) (hA : Ints la ha_ w aa arcs) (hca : arcs.length ≤ ca) (hSg : Ints lg hg_ w ag signs) (hn : (arcs.length : Int) ≤ 9223372036854775807)  : Cal Try.prog 24 [netV N A, .agg #[.slice aa arcs.length ca, .slice ag signs.length cg]] w (fun v w' => ∃ b, v = .bool b ∧ (b = true ↔ CyOk N arcs signs) ∧ Ext w w') := by
 replace hN := hN.full
 replace hA := Ints.full hA
 replace hSg := Ints.full hSg
 have hE : Out 0 0 w w := Out.refl _ _ w
 refine enter Try.func24 rfl Try.ntmps24 rfl ?_
 refine wp_seq ?_
 refine rg ?_
 refine sd (d_boxA rfl ?_)
 intro b2 w1 hbb2 hs3 ho2 hb2
 have hz4 := ho2.size
 replace hN := hN.ext ho2
 replace hA := hA.ext ho2
 replace hSg := hSg.ext ho2
 replace hE := hE.step ho2 (.inl (Nat.le_refl _))
 refine sd (d_boxA rfl ?_)
 intro b3 w5 hbb3 hs7 ho6 hb3
 have hz8 := ho6.size
 replace hN := hN.ext ho6
 replace hA := hA.ext ho6
 replace hSg := hSg.ext ho6
 replace hE := hE.step ho6 (.inl (Nat.le_refl _))
 replace hb2 := hb2.ext ho6
 refine st (asB rfl) ?_
 refine rg_end ?_
 refine n_then ?_
 refine wp_seq ?_
 refine wp_seq ?_
 refine rg ?_
 refine st (y_lbN hb2 agg26 rfl) ?_
 refine sc cl51 (network_Check_ok N A _ _ _ hN) rfl ?_
 rintro v13 w9 ⟨rfl, ho10⟩
 have hz14 := ho10.size
 replace hN := hN.ext ho10
 replace hA := hA.ext ho10
 replace hSg := hSg.ext ho10
 replace hE := hE.step ho10 (.inl (Nat.le_refl _))
 replace hb2 := hb2.ext ho10
 replace hb3 := hb3.ext ho10
 refine st (y_not rfl) ?_
 refine st (mvB rfl) ?_
 refine gspL 19 rfl (fun hg15 => ?_) (fun hg15 => ?_)
 ·
  have hg15n := hg15; try simp only [nm] at hg15n
  refine sts rfl rfl hg15 ?_
  refine sts rfl rfl hg15 ?_
  refine sts rfl rfl hg15 ?_
  refine sts rfl rfl hg15 ?_
  refine sts rfl rfl hg15 ?_
  refine sts rfl rfl hg15 ?_
  refine sts rfl rfl hg15 ?_
  refine st (y_pickT rfl hg15 (v := .bool _) rfl) ?_
  refine st (mvB rfl) ?_
  refine sts rfl rfl rfl ?_
  refine sts rfl rfl rfl ?_
  refine sts rfl rfl rfl ?_
  refine sts rfl rfl rfl ?_
  refine st (y_pickT rfl rfl (v := .bool _) rfl) ?_
  refine rg_end ?_
  refine n_then ?_
  refine cnd rfl (fun hc0 => ?_) (fun hc0 => absurd hc0 (by decide))
  have hno : ¬ CyOk N arcs signs := fun h => by
    have h1 := netOk_iff.2 h.ok
    have h2 := h.len
    have h3 := h.two
    first
    | omega
    | exact absurd h1 (by simp [*])
  refine wp_seq ?_
  refine rg ?_
  refine st (asB rfl) ?_
  refine rg_end ?_
  refine n_then ?_
  refine wp_ret ?_
  refine r_then (ret1 (v := (.bool _)) Try.results24 rfl ?_)
  exact ⟨false, rfl, ⟨fun h => (by cases h), fun h => absurd h hno⟩, hE⟩
 ·
  have hg15n := hg15; try simp only [nm] at hg15n
  refine stg rfl rfl hg15 (y_fld fld37_0 rfl) ?_
  refine stg rfl rfl hg15 (y_lb hb3 na22 rfl rfl) ?_
  refine stg rfl rfl hg15 (y_len Try.underlying22 rfl) ?_
  refine stg rfl rfl hg15 (y_fld fld37_1 rfl) ?_
  refine stg rfl rfl hg15 (y_lb hb3 na22 rfl rfl) ?_
  refine stg rfl rfl hg15 (y_len Try.underlying22 rfl) ?_
  refine stg rfl rfl hg15 (y_neq rfl rfl) ?_
  refine st (y_pickF rfl hg15 (v := .bool _) rfl) ?_
  refine st (mvB rfl) ?_
  refine gspL 28 rfl (fun hg16 => ?_) (fun hg16 => ?_)
  ·
   have hg16n := hg16; try simp only [nm] at hg16n
   refine sts rfl rfl hg16 ?_
   refine sts rfl rfl hg16 ?_
   refine sts rfl rfl hg16 ?_
   refine sts rfl rfl hg16 ?_
   refine st (y_pickT rfl hg16 (v := .bool _) rfl) ?_
   refine rg_end ?_
   refine n_then ?_
   refine cnd rfl (fun hc0 => ?_) (fun hc0 => absurd hc0 (by decide))
   have hno : ¬ CyOk N arcs signs := fun h => by
     have h1 := netOk_iff.2 h.ok
     have h2 := h.len
     have h3 := h.two
     first
     | omega
     | exact absurd h1 (by simp [*])
   refine wp_seq ?_
   refine rg ?_
   refine st (asB rfl) ?_
   refine rg_end ?_
   refine n_then ?_
   refine wp_ret ?_
   refine r_then (ret1 (v := (.bool _)) Try.results24 rfl ?_)
   exact ⟨false, rfl, ⟨fun h => (by cases h), fun h => absurd h hno⟩, hE⟩
  ·
   have hg16n := hg16; try simp only [nm] at hg16n
   refine stg rfl rfl hg16 (y_fld fld37_0 rfl) ?_
   refine stg rfl rfl hg16 (y_lb hb3 na22 rfl rfl) ?_
   refine stg rfl rfl hg16 (y_len Try.underlying22 rfl) ?_
   refine stg rfl rfl hg16 (y_lss rfl rfl) ?_
   refine st (y_pickF rfl hg16 (v := .bool _) rfl) ?_
   refine rg_end ?_
   refine n_then ?_
   refine cnd rfl (fun hc0 => ?_) (fun hc0 => ?_)
   ·
    try simp only [nm] at hc0
    have hno : ¬ CyOk N arcs signs := fun h => by
      have h1 := netOk_iff.2 h.ok
      have h2 := h.len
      have h3 := h.two
      first
      | omega
      | exact absurd h1 (by simp [*])
    refine wp_seq ?_
    refine rg ?_
    refine st (asB rfl) ?_
    refine rg_end ?_
    refine n_then ?_
    refine wp_ret ?_
    refine r_then (ret1 (v := (.bool _)) Try.results24 rfl ?_)
    exact ⟨false, rfl, ⟨fun h => (by cases h), fun h => absurd h hno⟩, hE⟩
   ·
    try simp only [nm] at hc0
    have hnk : netOk N = true := by assumption
    have hok := netOk_iff.1 hnk
    have hac := hok.ac
    have hev := hok.ev
    have hlen : arcs.length = signs.length := by omega
    refine wp_skip ?_
    refine n_then ?_
    refine wp_seq ?_
    refine rg ?_
    refine st (y_fld fld26_2 rfl) ?_
    refine st (y_lb hb2 na24 rfl rfl) ?_
    refine st (y_len Try.underlying24 rfl) ?_
    refine sd (d_make (m := N.acts.length) (lo := w9.heap.size) (enc := encB) (e0 := false) sl66 info4 (fun _ => rfl) rfl rfl rfl (by omega) (by unfold maxLen; omega) (by omega) ?_)
    intro bp w17 hbbp hs19 ho18 hP
    have hz21 := ho18.size
    replace hN := hN.ext ho18
    replace hA := hA.ext ho18
    replace hSg := hSg.ext ho18
    replace hE := hE.step ho18 (.inl (Nat.le_refl _))
    replace hb2 := hb2.ext ho18
    replace hb3 := hb3.ext ho18
    refine st (asS rfl) ?_
    refine rg_end ?_
    refine n_then ?_
    refine wp_seq ?_
    refine wp_seq ?_
    refine rg ?_
    refine st (y_fld fld37_0 rfl) ?_
    refine st (y_lb hb3 na22 rfl rfl) ?_
    refine st (y_len Try.underlying22 rfl) ?_
    refine st (mvI rfl) ?_
    refine rg_end ?_
    refine n_then ?_
    refine wp_block ?_
    refine lp (γ := Nat × List Bool) [4, 6, 7, 41, 42, 43, 44, 45, 46, 47, 48, 49, 50, 51, 52, 53, 54, 55, 56, 57, 58, 59, 60, 61, 62, 63, 64, 65, 66, 67, 68, 69, 70, 71, 72, 73, 74, 75, 76, 77, 78, 79, 80] (fun ⟨k, P⟩ => [(41, .int .i64 (k : Int))]) (fun ⟨k, P⟩ w_ => Out bp (bp + 1) w17 w_ ∧ (k : Int) ≤ arcs.length ∧ P.length = N.acts.length ∧ CyA N arcs signs k ∧ MetTo (fun q => el arcs (q : Int)) k P ∧ Ow 4 encB 1 bp (bp + 1) w_ (some ⟨bp, 0, none⟩) N.acts.length P) (fun ⟨k, P⟩ => arcs.length - k) (0, List.replicate N.acts.length false) ⟨rfl, trivial⟩ ⟨Out.refl _ _ _, by simp, by simp, CyA.zero, MetTo.zero, hP.lower (by omega)⟩ ?_
    rintro ⟨k, P⟩ hav_ w22 ⟨ho23, hk, hPl, hca_, hmet, hP⟩
    have hlp0 := ho23
    have hz24 := ho23.size
    replace hN := hN.out ho23 (by first | omega | (simp only [blk_some, hi1_some] at *; omega))
    replace hA := hA.out ho23 (by first | omega | (simp only [blk_some, hi1_some] at *; omega))
    replace hSg := hSg.out ho23 (by first | omega | (simp only [blk_some, hi1_some] at *; omega))
    replace hE := hE.step ho23 (by first | omega | (simp only [blk_some, hi1_some] at *; omega))
    replace hb2 := hb2.out ho23 (by first | omega | (simp only [blk_some, hi1_some] at *; omega))
    replace hb3 := hb3.out ho23 (by first | omega | (simp only [blk_some, hi1_some] at *; omega))
    refine wp_seq ?_
    refine rg ?_
    refine st (y_lss rfl rfl) ?_
    refine rg_end ?_
    refine n_then ?_
    refine wp_seq ?_
    refine cnd rfl (fun hc1 => ?_) (fun hc1 => ?_)
    ·
     try simp only [nm] at hc1
     refine wp_skip ?_
     refine n_then ?_
     refine wp_seq ?_
     refine wp_block ?_
     refine wp_seq ?_
     refine rg ?_
     refine st (mvI rfl) ?_
     refine st (y_ix hA sl22 rfl (rfl) rfl (by omega) (by omega)) ?_
     refine st (y_le hA na3 rfl (by omega) (by omega) rfl) ?_
     refine st (asI rfl) ?_
     refine st (asI rfl) ?_
     refine rg_end ?_
     refine n_then ?_
     refine wp_seq ?_
     refine wp_seq ?_
     refine rg ?_
     refine st (mvI rfl) ?_
     refine st (y_lss rfl rfl) ?_
     refine st (mvB rfl) ?_
     refine gspL 48 rfl (fun hg25 => ?_) (fun hg25 => ?_)
     ·
      have hg25n := hg25; try simp only [nm] at hg25n
      refine sts rfl rfl hg25 ?_
      refine sts rfl rfl hg25 ?_
      refine sts rfl rfl hg25 ?_
      refine sts rfl rfl hg25 ?_
      refine sts rfl rfl hg25 ?_
      refine st (y_pickT rfl hg25 (v := .bool _) rfl) ?_
      refine st (mvB rfl) ?_
      refine sts rfl rfl rfl ?_
      refine sts rfl rfl rfl ?_
      refine sts rfl rfl rfl ?_
      refine sts rfl rfl rfl ?_
      refine st (y_pickT rfl rfl (v := .bool _) rfl) ?_
      refine st (mvB rfl) ?_
      refine sts rfl rfl rfl ?_
      refine sts rfl rfl rfl ?_
      refine sts rfl rfl rfl ?_
      refine sts rfl rfl rfl ?_
      refine sts rfl rfl rfl ?_
      refine sts rfl rfl rfl ?_
      refine sts rfl rfl rfl ?_
      refine stu rfl rfl ?_
      refine stu rfl rfl ?_
      refine stu rfl rfl ?_
      refine stu rfl rfl ?_
      refine stu rfl rfl ?_
      refine stu rfl rfl ?_
      refine sts rfl rfl rfl ?_
      refine st (y_pickT rfl rfl (v := .bool _) rfl) ?_
      refine rg_end ?_
      refine n_then ?_
      refine cnd rfl (fun hc2 => ?_) (fun hc2 => absurd hc2 (by decide))
      have hno : ¬ CyOk N arcs signs := fun h => by
        have h1 := h.a.rng k (by omega)
        first
        | omega
        | (obtain ⟨q, hq, he⟩ := (hmet (el arcs (k : Int)) (by omega) (by omega)).1 (by assumption)
           exact h.a.dist q k hq (by omega) he)
      refine wp_seq ?_
      refine rg ?_
      refine st (asB rfl) ?_
      refine rg_end ?_
      refine n_then ?_
      refine wp_ret ?_
      refine r_then (r_blk (r_then (r_then (r_blk (r_then (ret1 (v := (.bool _)) Try.results24 rfl ?_))))))
      exact ⟨false, rfl, ⟨fun h => (by cases h), fun h => absurd h hno⟩, hE⟩
     ·
      have hg25n := hg25; try simp only [nm] at hg25n
      refine stg rfl rfl hg25 (mvI rfl) ?_
      refine stg rfl rfl hg25 (y_fld fld26_2 rfl) ?_
      refine stg rfl rfl hg25 (y_lb hb2 na24 rfl rfl) ?_
      refine stg rfl rfl hg25 (y_len Try.underlying24 rfl) ?_
      refine stg rfl rfl hg25 (y_geq rfl rfl) ?_
      refine st (y_pickF rfl hg25 (v := .bool _) rfl) ?_
      refine st (mvB rfl) ?_
      refine gspL 55 rfl (fun hg26 => ?_) (fun hg26 => ?_)
      ·
       have hg26n := hg26; try simp only [nm] at hg26n
       refine sts rfl rfl hg26 ?_
       refine sts rfl rfl hg26 ?_
       refine sts rfl rfl hg26 ?_
       refine sts rfl rfl hg26 ?_
       refine st (y_pickT rfl hg26 (v := .bool _) rfl) ?_
       refine st (mvB rfl) ?_
       refine sts rfl rfl rfl ?_
       refine sts rfl rfl rfl ?_
       refine sts rfl rfl rfl ?_
       refine sts rfl rfl rfl ?_
       refine sts rfl rfl rfl ?_
       refine sts rfl rfl rfl ?_
       refine sts rfl rfl rfl ?_
       refine stu rfl rfl ?_
       refine stu rfl rfl ?_
       refine stu rfl rfl ?_
       refine stu rfl rfl ?_
       refine stu rfl rfl ?_
       refine stu rfl rfl ?_
       refine sts rfl rfl rfl ?_
       refine st (y_pickT rfl rfl (v := .bool _) rfl) ?_
       refine rg_end ?_
       refine n_then ?_
       refine cnd rfl (fun hc2 => ?_) (fun hc2 => absurd hc2 (by decide))
       have hno : ¬ CyOk N arcs signs := fun h => by
         have h1 := h.a.rng k (by omega)
         first
         | omega
         | (obtain ⟨q, hq, he⟩ := (hmet (el arcs (k : Int)) (by omega) (by omega)).1 (by assumption)
            exact h.a.dist q k hq (by omega) he)
       refine wp_seq ?_
       refine rg ?_
       refine st (asB rfl) ?_
       refine rg_end ?_
       refine n_then ?_
       refine wp_ret ?_
       refine r_then (r_blk (r_then (r_then (r_blk (r_then (ret1 (v := (.bool _)) Try.results24 rfl ?_))))))
       exact ⟨false, rfl, ⟨fun h => (by cases h), fun h => absurd h hno⟩, hE⟩
      ·
       have hg26n := hg26; try simp only [nm] at hg26n
       refine stg rfl rfl hg26 (mvS rfl) ?_
       refine stg rfl rfl hg26 (mvI rfl) ?_
       refine stg rfl rfl hg26 (y_ix hP.sl sl66 rfl (hPl.symm) rfl (by omega) (by omega)) ?_
       refine stg rfl rfl hg26 (y_le hP.sl na4 rfl (by omega) (by omega) rfl) ?_
       refine st (y_pickF rfl hg26 (v := .bool _) rfl) ?_
       refine st (mvB rfl) ?_
       refine gspL 61 rfl (fun hg27 => ?_) (fun hg27 => ?_)
       ·
        have hg27n := hg27; try simp only [nm] at hg27n
        refine sts rfl rfl hg27 ?_
        refine sts rfl rfl hg27 ?_
        refine sts rfl rfl hg27 ?_
        refine sts rfl rfl hg27 ?_
        refine sts rfl rfl hg27 ?_
        refine sts rfl rfl hg27 ?_
        refine sts rfl rfl hg27 ?_
        refine stu rfl rfl ?_
        refine stu rfl rfl ?_
        refine stu rfl rfl ?_
        refine stu rfl rfl ?_
        refine stu rfl rfl ?_
        refine stu rfl rfl ?_
        refine sts rfl rfl hg27 ?_
        refine st (y_pickT rfl hg27 (v := .bool _) rfl) ?_
        refine rg_end ?_
        refine n_then ?_
        refine cnd rfl (fun hc2 => ?_) (fun hc2 => absurd hc2 (by decide))
        have hno : ¬ CyOk N arcs signs := fun h => by
          have h1 := h.a.rng k (by omega)
          first
          | omega
          | (obtain ⟨q, hq, he⟩ := (hmet (el arcs (k : Int)) (by omega) (by omega)).1 (by assumption)
             exact h.a.dist q k hq (by omega) he)
        refine wp_seq ?_
        refine rg ?_
        refine st (asB rfl) ?_
        refine rg_end ?_
        refine n_then ?_
        refine wp_ret ?_
        refine r_then (r_blk (r_then (r_then (r_blk (r_then (ret1 (v := (.bool _)) Try.results24 rfl ?_))))))
        exact ⟨false, rfl, ⟨fun h => (by cases h), fun h => absurd h hno⟩, hE⟩
       ·
        have hg27n := hg27; try simp only [nm] at hg27n
        refine stg rfl rfl hg27 (y_fld fld37_1 rfl) ?_
        refine stg rfl rfl hg27 (y_lb hb3 na22 rfl rfl) ?_
        refine stg rfl rfl hg27 (mvI rfl) ?_
        refine stg rfl rfl hg27 (y_ix hSg sl22 rfl (rfl) rfl (by omega) (by omega)) ?_
        refine stg rfl rfl hg27 (y_le hSg na3 rfl (by omega) (by omega) rfl) ?_
        refine stg rfl rfl hg27 (y_neq rfl rfl) ?_
        refine stg rfl rfl hg27 (mvB rfl) ?_
        refine gspL 68 rfl (fun hg28 => ?_) (fun hg28 => ?_)
        ·
         have hg28n := hg28; try simp only [nm] at hg28n
         refine stg rfl rfl hg28 (y_fld fld37_1 rfl) ?_
         refine stg rfl rfl hg28 (y_lb hb3 na22 rfl rfl) ?_
         refine stg rfl rfl hg28 (mvI rfl) ?_
         refine stg rfl rfl hg28 (y_ix hSg sl22 rfl (rfl) rfl (by omega) (by omega)) ?_
         refine stg rfl rfl hg28 (y_le hSg na3 rfl (by omega) (by omega) rfl) ?_
         refine stg rfl rfl hg28 (y_neq rfl rfl) ?_
         refine stg rfl rfl hg27 (y_pickT rfl hg28 (v := .bool _) rfl) ?_
         refine st (y_pickF rfl hg27 (v := .bool _) rfl) ?_
         refine rg_end ?_
         refine n_then ?_
         refine cnd rfl (fun hc2 => ?_) (fun hc2 => ?_)
         ·
          try simp only [nm] at hc2
          have hno : ¬ CyOk N arcs signs := fun h => by
            have h1 := h.a.rng k (by omega)
            first
            | omega
            | (obtain ⟨q, hq, he⟩ := (hmet (el arcs (k : Int)) (by omega) (by omega)).1 (by assumption)
               exact h.a.dist q k hq (by omega) he)
          refine wp_seq ?_
          refine rg ?_
          refine st (asB rfl) ?_
          refine rg_end ?_
          refine n_then ?_
          refine wp_ret ?_
          refine r_then (r_blk (r_then (r_then (r_blk (r_then (ret1 (v := (.bool _)) Try.results24 rfl ?_))))))
          exact ⟨false, rfl, ⟨fun h => (by cases h), fun h => absurd h hno⟩, hE⟩
         ·
          try simp only [nm] at hc2
          have hi0 : 0 ≤ el arcs (k : Int) ∧ el arcs (k : Int) < N.acts.length := by omega
          have hpf : el P (el arcs (k : Int)) = false := by assumption
          have hca1 := hca_.succ hi0.1 hi0.2 (by omega) (fun i hi e => by
            have := (hmet (el arcs (k : Int)) hi0.1 (by omega)).2 ⟨i, hi, e⟩
            rw [hpf] at this; cases this)
          have hmet1 := hmet.put hi0.1 (by omega)
          refine wp_skip ?_
          refine n_then ?_
          refine rg ?_
          refine st (mvS rfl) ?_
          refine st (mvI rfl) ?_
          refine st (y_ix hP.sl sl66 rfl (hPl.symm) rfl (by omega) (by omega)) ?_
          refine sd0 (d_se (j := 0) (e' := true) hP sz4 rfl rfl rfl (by omega) (by omega) (Nat.le_of_ble_eq_true rfl) rfl ?_)
          intro w29 hs31 ho30 hP'
          have hrhP := hP.rng
          clear hP; have hP := hP'; clear hP'
          have hz32 := ho30.size
          replace hN := hN.out ho30 (by first | omega | (simp only [blk_some, hi1_some] at *; omega))
          replace hA := hA.out ho30 (by first | omega | (simp only [blk_some, hi1_some] at *; omega))
          replace hSg := hSg.out ho30 (by first | omega | (simp only [blk_some, hi1_some] at *; omega))
          replace hE := hE.step ho30 (by first | omega | (simp only [blk_some, hi1_some] at *; omega))
          replace hb2 := hb2.out ho30 (by first | omega | (simp only [blk_some, hi1_some] at *; omega))
          replace hb3 := hb3.out ho30 (by first | omega | (simp only [blk_some, hi1_some] at *; omega))
          replace hlp0 := hlp0.step ho30 (by first | omega | (simp only [blk_some, hi1_some] at *; omega))
          refine rg_end ?_
          refine n_blk ?_
          refine n_then ?_
          refine rg ?_
          refine st (y_add rfl rfl (by omega)) ?_
          refine st (mvI rfl) ?_
          refine rg_end ?_
          exact n_then ⟨(k + 1, _), _, rfl, same_lk rfl (same_h0), ⟨rfl, trivial⟩, ⟨hlp0, by omega, by simp [hPl], hca1, hmet1, hP⟩, by first | omega | (dsimp only; omega)⟩
        ·
         have hg28n := hg28; try simp only [nm] at hg28n
         refine sts rfl rfl hg28 ?_
         refine sts rfl rfl hg28 ?_
         refine sts rfl rfl hg28 ?_
         refine sts rfl rfl hg28 ?_
         refine sts rfl rfl hg28 ?_
         refine sts rfl rfl hg28 ?_
         refine stg rfl rfl hg27 (y_pickF rfl hg28 (v := .bool _) rfl) ?_
         refine st (y_pickF rfl hg27 (v := .bool _) rfl) ?_
         refine rg_end ?_
         refine n_then ?_
         refine cnd rfl (fun hc2 => absurd hc2 (by decide)) (fun hc2 => ?_)
         have hi0 : 0 ≤ el arcs (k : Int) ∧ el arcs (k : Int) < N.acts.length := by omega
         have hpf : el P (el arcs (k : Int)) = false := by assumption
         have hca1 := hca_.succ hi0.1 hi0.2 (by omega) (fun i hi e => by
           have := (hmet (el arcs (k : Int)) hi0.1 (by omega)).2 ⟨i, hi, e⟩
           rw [hpf] at this; cases this)
         have hmet1 := hmet.put hi0.1 (by omega)
         refine wp_skip ?_
         refine n_then ?_
         refine rg ?_
         refine st (mvS rfl) ?_
         refine st (mvI rfl) ?_
         refine st (y_ix hP.sl sl66 rfl (hPl.symm) rfl (by omega) (by omega)) ?_
         refine sd0 (d_se (j := 0) (e' := true) hP sz4 rfl rfl rfl (by omega) (by omega) (Nat.le_of_ble_eq_true rfl) rfl ?_)
         intro w33 hs35 ho34 hP'
         have hrhP := hP.rng
         clear hP; have hP := hP'; clear hP'
         have hz36 := ho34.size
         replace hN := hN.out ho34 (by first | omega | (simp only [blk_some, hi1_some] at *; omega))
         replace hA := hA.out ho34 (by first | omega | (simp only [blk_some, hi1_some] at *; omega))
         replace hSg := hSg.out ho34 (by first | omega | (simp only [blk_some, hi1_some] at *; omega))
         replace hE := hE.step ho34 (by first | omega | (simp only [blk_some, hi1_some] at *; omega))
         replace hb2 := hb2.out ho34 (by first | omega | (simp only [blk_some, hi1_some] at *; omega))
         replace hb3 := hb3.out ho34 (by first | omega | (simp only [blk_some, hi1_some] at *; omega))
         replace hlp0 := hlp0.step ho34 (by first | omega | (simp only [blk_some, hi1_some] at *; omega))
         refine rg_end ?_
         refine n_blk ?_
         refine n_then ?_
         refine rg ?_
         refine st (y_add rfl rfl (by omega)) ?_
         refine st (mvI rfl) ?_
         refine rg_end ?_
         exact n_then ⟨(k + 1, _), _, rfl, same_lk rfl (same_h0), ⟨rfl, trivial⟩, ⟨hlp0, by omega, by simp [hPl], hca1, hmet1, hP⟩, by first | omega | (dsimp only; omega)⟩
    ·
     try simp only [nm] at hc1
     have hkl : k = arcs.length := by omega
     subst hkl
     have hlr := hca_.rng (arcs.length - 1) (by omega)
     rw [show (((arcs.length - 1 : Nat)) : Int) = (arcs.length : Int) - 1 by omega] at hlr
     refine wp_exit ?_
     refine e_then (e_then (e_blk (?_)))
     refine n_then ?_
     refine wp_seq ?_
     refine rg ?_
     refine st (y_fld fld26_1 rfl) ?_
     refine st (y_lb hb2 na23 rfl rfl) ?_
     refine st (y_len Try.underlying23 rfl) ?_
     refine sd (d_make (m := N.evs.length) (lo := w22.heap.size) (enc := encB) (e0 := false) sl66 info4 (fun _ => rfl) rfl rfl rfl (by omega) (by unfold maxLen; omega) (by omega) ?_)
     intro bq w37 hbbq hs39 ho38 hQ
     have hz41 := ho38.size
     replace hN := hN.ext ho38
     replace hA := hA.ext ho38
     replace hSg := hSg.ext ho38
     replace hE := hE.step ho38 (.inl (Nat.le_refl _))
     replace hb2 := hb2.ext ho38
     replace hb3 := hb3.ext ho38
     replace hP := hP.ext ho38
     refine st (asS rfl) ?_
     refine rg_end ?_
     refine n_then ?_
     refine wp_seq ?_
     refine rg ?_
     refine st (y_fld fld37_0 rfl) ?_
     refine st (y_lb hb3 na22 rfl rfl) ?_
     refine st (y_len Try.underlying22 rfl) ?_
     refine st (y_sub rfl rfl (by omega)) ?_
     refine st (asI rfl) ?_
     refine rg_end ?_
     refine n_then ?_
     refine wp_seq ?_
     refine rgD 19 (fun w_ => Ext w37 w_) (fun i => Nat.beq i 14) mixed (by kernel_rfl) ?_
     intro w42 ho43 hs44
     refine ⟨ho43, ?_⟩
     have hx45 := ho43
     refine tn rfl (fun _ hG => y_fld fld26_2 rfl) ?_
     refine tn rfl (fun _ hG => y_lb (hb2.ext hG) na24 rfl rfl) ?_
     refine tn rfl (fun _ hG => y_fld fld37_0 rfl) ?_
     refine tn rfl (fun _ hG => y_lb (hb3.ext hG) na22 rfl rfl) ?_
     refine tn rfl (fun _ hG => mvI rfl) ?_
     refine tn rfl (fun _ hG => y_ix (hA.ext hG) sl22 rfl (rfl) rfl (by omega) (by omega)) ?_
     refine tn rfl (fun _ hG => y_le (hA.ext hG) na3 rfl (by omega) (by omega) rfl) ?_
     refine tn rfl (fun _ hG => y_ix (hN.a.ext hG) sl24 rfl (rfl) rfl (by omega) (by omega)) ?_
     refine tn rfl (fun _ hG => y_lw (hN.a.ext hG) agg43 rfl (by omega) (by omega)) ?_
     refine tn rfl (fun _ hG => y_fld fld37_1 rfl) ?_
     refine tn rfl (fun _ hG => y_lb (hb3.ext hG) na22 rfl rfl) ?_
     refine tn rfl (fun _ hG => mvI rfl) ?_
     refine tn rfl (fun _ hG => y_ix (hSg.ext hG) sl22 rfl (rfl) rfl (by omega) (by omega)) ?_
     refine tn rfl (fun _ hG => y_le (hSg.ext hG) na3 rfl (by omega) (by omega) rfl) ?_
     refine tc rfl cl52 (cycles_ends_ok (el N.acts (el arcs ((arcs.length : Int) - 1))) (el signs ((arcs.length : Int) - 1)) _) rfl ?_
     rintro v50 w46 ⟨rfl, ho47⟩
     rw [show endE (el N.acts (el arcs ((arcs.length : Int) - 1))) (el signs ((arcs.length : Int) - 1)) = atK N arcs signs 0 from by rw [show ((arcs.length : Int) - 1) = ((arcs.length - 1 : Nat) : Int) by omega]; rfl]
     have hx51 := hx45.step ho47 (.inl (Nat.le_refl _))
     have hz52 := ho47.size
     refine ⟨hx51, ?_⟩
     refine tn rfl (fun _ hG => mvT rfl) ?_
     refine tn rfl (fun _ hG => y_ext rfl rfl) ?_
     refine tn rfl (fun _ hG => y_ext rfl rfl) ?_
     refine tn rfl (fun _ hG => asI rfl) ?_
     refine t_end ?_
     have hz53 := hx51.size
     replace hN := hN.ext hx51
     replace hA := hA.ext hx51
     replace hSg := hSg.ext hx51
     replace hE := hE.step hx51 (.inl (Nat.le_refl _))
     replace hb2 := hb2.ext hx51
     replace hb3 := hb3.ext hx51
     replace hP := hP.ext hx51
     replace hQ := hQ.ext hx51
     refine st (asI rfl) ?_
     refine rg_end ?_
     refine n_then ?_
     refine wp_seq ?_
     refine wp_seq ?_
     refine rg ?_
     refine st (y_fld fld37_0 rfl) ?_
     refine st (y_lb hb3 na22 rfl rfl) ?_
     refine st (y_len Try.underlying22 rfl) ?_
     refine st (mvI rfl) ?_
     refine rg_end ?_
     refine n_then ?_
     refine wp_block ?_
     refine lp (γ := Nat × List Bool) [4, 11, 12, 13, 14, 15, 110, 111, 112, 113, 114, 115, 116, 117, 118, 119, 120, 121, 122, 123, 124, 125, 126, 127, 128, 129, 130, 131, 132, 133, 134, 135, 136, 137, 138, 139, 140, 141, 142] (fun ⟨k, Q⟩ => [(110, .int .i64 (k : Int)), (11, .int .i64 (atK N arcs signs k))]) (fun ⟨k, Q⟩ w_ => Out bq (bq + 1) w46 w_ ∧ (k : Int) ≤ arcs.length ∧ Q.length = N.evs.length ∧ CyB N arcs signs k ∧ MetTo (stK N arcs signs) k Q ∧ Ow 4 encB 1 bq (bq + 1) w_ (some ⟨bq, 0, none⟩) N.evs.length Q) (fun ⟨k, Q⟩ => arcs.length - k) (0, List.replicate N.evs.length false) ⟨rfl, rfl, trivial⟩ ⟨Out.refl _ _ _, by simp, by simp, CyB.zero, MetTo.zero, hQ.lower (by omega)⟩ ?_
     rintro ⟨k, Q⟩ hav_ w54 ⟨ho55, hk, hQl, hcb, hmt, hQ⟩
     have hlp1 := ho55
     have hz56 := ho55.size
     replace hN := hN.out ho55 (by first | omega | (simp only [blk_some, hi1_some] at *; omega))
     replace hA := hA.out ho55 (by first | omega | (simp only [blk_some, hi1_some] at *; omega))
     replace hSg := hSg.out ho55 (by first | omega | (simp only [blk_some, hi1_some] at *; omega))
     replace hE := hE.step ho55 (by first | omega | (simp only [blk_some, hi1_some] at *; omega))
     replace hb2 := hb2.out ho55 (by first | omega | (simp only [blk_some, hi1_some] at *; omega))
     replace hb3 := hb3.out ho55 (by first | omega | (simp only [blk_some, hi1_some] at *; omega))
     have hrnhP := hP.rng
     replace hP := hP.out ho55 (by first | omega | (simp only [blk_some, hi1_some] at *; omega))
     refine wp_seq ?_
     refine rg ?_
     refine st (y_lss rfl rfl) ?_
     refine rg_end ?_
     refine n_then ?_
     refine wp_seq ?_
     refine cnd rfl (fun hc3 => ?_) (fun hc3 => ?_)
     ·
      try simp only [nm] at hc3
      have hrk := hca_.rng k (by omega)
      have hsr := st_rng (signs := signs) hok hrk.1 hrk.2.1
      refine wp_skip ?_
      refine n_then ?_
      refine wp_seq ?_
      refine wp_block ?_
      refine wp_seq ?_
      refine rg ?_
      refine st (mvI rfl) ?_
      refine st (y_ix hA sl22 rfl (rfl) rfl (by omega) (by omega)) ?_
      refine st (y_le hA na3 rfl (by omega) (by omega) rfl) ?_
      refine st (asI rfl) ?_
      refine st (asI rfl) ?_
      refine rg_end ?_
      refine n_then ?_
      refine wp_seq ?_
      refine rgD 15 (fun w_ => Ext w54 w_) (fun i => Nat.beq i 10) mixed (by kernel_rfl) ?_
      intro w57 ho58 hs59
      refine ⟨ho58, ?_⟩
      have hx60 := ho58
      refine tn rfl (fun _ hG => y_fld fld26_2 rfl) ?_
      refine tn rfl (fun _ hG => y_lb (hb2.ext hG) na24 rfl rfl) ?_
      refine tn rfl (fun _ hG => mvI rfl) ?_
      refine tn rfl (fun _ hG => y_ix (hN.a.ext hG) sl24 rfl (rfl) rfl (by omega) (by omega)) ?_
      refine tn rfl (fun _ hG => y_lw (hN.a.ext hG) agg43 rfl (by omega) (by omega)) ?_
      refine tn rfl (fun _ hG => y_fld fld37_1 rfl) ?_
      refine tn rfl (fun _ hG => y_lb (hb3.ext hG) na22 rfl rfl) ?_
      refine tn rfl (fun _ hG => mvI rfl) ?_
      refine tn rfl (fun _ hG => y_ix (hSg.ext hG) sl22 rfl (rfl) rfl (by omega) (by omega)) ?_
      refine tn rfl (fun _ hG => y_le (hSg.ext hG) na3 rfl (by omega) (by omega) rfl) ?_
      refine tc rfl cl52 (cycles_ends_ok (el N.acts (el arcs (k : Int))) (el signs (k : Int)) _) rfl ?_
      rintro v65 w61 ⟨rfl, ho62⟩
      rw [show endS (el N.acts (el arcs (k : Int))) (el signs (k : Int)) = stK N arcs signs k from rfl, show endE (el N.acts (el arcs (k : Int))) (el signs (k : Int)) = enK N arcs signs k from rfl]
      have hx66 := hx60.step ho62 (.inl (Nat.le_refl _))
      have hz67 := ho62.size
      refine ⟨hx66, ?_⟩
      refine tn rfl (fun _ hG => mvT rfl) ?_
      refine tn rfl (fun _ hG => y_ext rfl rfl) ?_
      refine tn rfl (fun _ hG => y_ext rfl rfl) ?_
      refine tn rfl (fun _ hG => asI rfl) ?_
      refine t_end ?_
      have hz68 := hx66.size
      replace hN := hN.ext hx66
      replace hA := hA.ext hx66
      replace hSg := hSg.ext hx66
      replace hE := hE.step hx66 (.inl (Nat.le_refl _))
      replace hb2 := hb2.ext hx66
      replace hb3 := hb3.ext hx66
      replace hP := hP.ext hx66
      replace hQ := hQ.ext hx66
      replace hlp1 := hlp1.step hx66 (.inl (Nat.le_refl _))
      refine st (asI rfl) ?_
      refine rg_end ?_
      refine n_then ?_
      refine wp_seq ?_
      refine wp_seq ?_
      refine rg ?_
      refine st (mvI rfl) ?_
      refine st (mvI rfl) ?_
      refine st (y_neq rfl rfl) ?_
      refine st (mvB rfl) ?_
      refine gspL 132 rfl (fun hg69 => ?_) (fun hg69 => ?_)
      ·
       have hg69n := hg69; try simp only [nm] at hg69n
       refine sts rfl rfl hg69 ?_
       refine sts rfl rfl hg69 ?_
       refine sts rfl rfl hg69 ?_
       refine sts rfl rfl hg69 ?_
       refine st (y_pickT rfl hg69 (v := .bool _) rfl) ?_
       refine rg_end ?_
       refine n_then ?_
       refine cnd rfl (fun hc4 => ?_) (fun hc4 => absurd hc4 (by decide))
       have hno : ¬ CyOk N arcs signs := fun h => by
         have h1 := h.b.at (k := k) (by omega)
         first
         | omega
         | (obtain ⟨q, hq, he⟩ := (hmt (stK N arcs signs k) (by omega) (by omega)).1 (by assumption)
            exact h.b.dist q k hq (by omega) he)
       refine wp_seq ?_
       refine rg ?_
       refine st (asB rfl) ?_
       refine rg_end ?_
       refine n_then ?_
       refine wp_ret ?_
       refine r_then (r_blk (r_then (r_then (r_blk (r_then (ret1 (v := (.bool _)) Try.results24 rfl ?_))))))
       exact ⟨false, rfl, ⟨fun h => (by cases h), fun h => absurd h hno⟩, hE⟩
      ·
       have hg69n := hg69; try simp only [nm] at hg69n
       refine stg rfl rfl hg69 (mvS rfl) ?_
       refine stg rfl rfl hg69 (mvI rfl) ?_
       refine stg rfl rfl hg69 (y_ix hQ.sl sl66 rfl (hQl.symm) rfl (by omega) (by omega)) ?_
       refine stg rfl rfl hg69 (y_le hQ.sl na4 rfl (by omega) (by omega) rfl) ?_
       refine st (y_pickF rfl hg69 (v := .bool _) rfl) ?_
       refine rg_end ?_
       refine n_then ?_
       refine cnd rfl (fun hc4 => ?_) (fun hc4 => ?_)
       ·
        try simp only [nm] at hc4
        have hno : ¬ CyOk N arcs signs := fun h => by
          have h1 := h.b.at (k := k) (by omega)
          first
          | omega
          | (obtain ⟨q, hq, he⟩ := (hmt (stK N arcs signs k) (by omega) (by omega)).1 (by assumption)
             exact h.b.dist q k hq (by omega) he)
        refine wp_seq ?_
        refine rg ?_
        refine st (asB rfl) ?_
        refine rg_end ?_
        refine n_then ?_
        refine wp_ret ?_
        refine r_then (r_blk (r_then (r_then (r_blk (r_then (ret1 (v := (.bool _)) Try.results24 rfl ?_))))))
        exact ⟨false, rfl, ⟨fun h => (by cases h), fun h => absurd h hno⟩, hE⟩
       ·
        try simp only [nm] at hc4
        have hpf : el Q (stK N arcs signs k) = false := by assumption
        have hcb1 := hcb.succ (by omega) (fun i hi e => by
          have := (hmt (stK N arcs signs k) hsr.1 (by omega)).2 ⟨i, hi, e⟩
          rw [hpf] at this; cases this)
        have hmt1 := hmt.put hsr.1 (by omega)
        refine wp_skip ?_
        refine n_then ?_
        refine wp_seq ?_
        refine rg ?_
        refine st (mvS rfl) ?_
        refine st (mvI rfl) ?_
        refine st (y_ix hQ.sl sl66 rfl (hQl.symm) rfl (by omega) (by omega)) ?_
        refine sd0 (d_se (j := 0) (e' := true) hQ sz4 rfl rfl rfl (by omega) (by omega) (Nat.le_of_ble_eq_true rfl) rfl ?_)
        intro w70 hs72 ho71 hQ'
        have hrhQ := hQ.rng
        clear hQ; have hQ := hQ'; clear hQ'
        have hz73 := ho71.size
        replace hN := hN.out ho71 (by first | omega | (simp only [blk_some, hi1_some] at *; omega))
        replace hA := hA.out ho71 (by first | omega | (simp only [blk_some, hi1_some] at *; omega))
        replace hSg := hSg.out ho71 (by first | omega | (simp only [blk_some, hi1_some] at *; omega))
        replace hE := hE.step ho71 (by first | omega | (simp only [blk_some, hi1_some] at *; omega))
        replace hb2 := hb2.out ho71 (by first | omega | (simp only [blk_some, hi1_some] at *; omega))
        replace hb3 := hb3.out ho71 (by first | omega | (simp only [blk_some, hi1_some] at *; omega))
        replace hP := hP.out ho71 (by first | omega | (simp only [blk_some, hi1_some] at *; omega))
        replace hlp1 := hlp1.step ho71 (by first | omega | (simp only [blk_some, hi1_some] at *; omega))
        refine rg_end ?_
        refine n_then ?_
        refine rg ?_
        refine st (mvI rfl) ?_
        refine st (asI rfl) ?_
        refine rg_end ?_
        refine n_blk ?_
        refine n_then ?_
        refine rg ?_
        refine st (y_add rfl rfl (by omega)) ?_
        refine st (mvI rfl) ?_
        refine rg_end ?_
        exact n_then ⟨(k + 1, _), _, rfl, same_lk rfl (same_h0), ⟨rfl, vi atK_succ.symm, trivial⟩, ⟨hlp1, by omega, by simp [hQl], hcb1, hmt1, hQ⟩, by first | omega | (dsimp only; omega)⟩
     ·
      try simp only [nm] at hc3
      have hkl : k = arcs.length := by omega
      subst hkl
      refine wp_exit ?_
      refine e_then (e_then (e_blk (?_)))
      refine n_then ?_
      refine wp_seq ?_
      refine rg ?_
      refine st (asB rfl) ?_
      refine rg_end ?_
      refine n_then ?_
      refine wp_ret ?_
      refine ret1 (v := (.bool _)) Try.results24 rfl ?_
      exact ⟨true, rfl, ⟨fun _ => ⟨hok, hlen, by omega, hca_, hcb⟩, fun _ => rfl⟩, hE⟩
end Go.Proofs.Ytdgkaahghlbocaa
