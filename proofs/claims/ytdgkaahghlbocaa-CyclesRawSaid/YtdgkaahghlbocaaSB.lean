/-
  Walks of the functions, printed by a program out of the code and the loops' relations.
-/
import Derived.Test.YtdgkaahghlbocaaWkG
import Derived.Test.YtdgkaahghlbocaaProg
import Derived.KernelRfl
import Derived.Test.YtdgkaahghlbocaaS8
import Derived.Test.YtdgkaahghlbocaaSA
namespace Go.Proofs.Ytdgkaahghlbocaa
open Go.Wk Go.RowKit
set_option linter.unusedVariables false
set_option linter.unusedSimpArgs false
theorem cl14 : Callable Try.prog 14 := ⟨Try.call14⟩
theorem cl36 : Callable Try.prog 36 := ⟨Try.call36⟩
theorem cl65 : Callable Try.prog 65 := ⟨Try.call65⟩

set_option maxHeartbeats 2000000 in
set_option maxRecDepth 100000 in
theorem ref11_TreeN_ok (N : Net) (A : NetA) (lo hi : Nat) (w : World) (hN : NetIn lo hi w N A) (hno : netOk N = false) : Cal Try.prog 13 [netV N A] w (fun v w' => v = .slice none 0 0 ∧ Ext w w') := by
 replace hN := hN.full
 have hE : Out 0 0 w w := Out.refl _ _ w
 refine enter Try.func13 rfl Try.ntmps13 rfl ?_
 refine wp_seq ?_
 refine rg ?_
 refine sd (d_boxA rfl ?_)
 intro b1 w1 hbb1 hs3 ho2 hb1
 have hz4 := ho2.size
 replace hN := hN.ext ho2
 replace hE := hE.step ho2 (.inl (Nat.le_refl _))
 refine st (asS rfl) ?_
 refine rg_end ?_
 refine n_then ?_
 refine wp_seq ?_
 refine wp_seq ?_
 refine rg ?_
 refine st (y_lbN hb1 agg26 rfl) ?_
 refine sc cl39 (ref11_Check_ok N A _ _ _ hN) rfl ?_
 rintro v9 w5 ⟨rfl, ho6⟩
 have hz10 := ho6.size
 replace hN := hN.ext ho6
 replace hE := hE.step ho6 (.inl (Nat.le_refl _))
 replace hb1 := hb1.ext ho6
 refine st (y_not rfl) ?_
 refine rg_end ?_
 refine n_then ?_
 refine cnd rfl (fun hc0 => ?_) (fun hc0 => absurd ((congrArg Bool.not hno).symm.trans hc0) (by decide))
 refine wp_seq ?_
 refine rg ?_
 refine st (asS rfl) ?_
 refine rg_end ?_
 refine n_then ?_
 refine wp_ret ?_
 refine r_then (ret1 (v := (.slice _ _ _)) Try.results13 rfl ?_)
 exact ⟨rfl, hE⟩

theorem ref11_TreeB_ok (N : Net) (A : NetA) (lo hi : Nat)  (w : World) (hN : NetIn lo hi w N A)  : Cal Try.prog 13 [netV N A] w (fun v w' => ∃ ad c t, v = .slice ad t.length c ∧ Ints w.heap.size w'.heap.size w' ad t ∧ (netOk N = false → t = []) ∧ (netOk N = true → t = trX N) ∧ (t.length : Int) ≤ 512 ∧ Ext w w') := by
  cases h : netOk N with
  | false =>
    refine Cal.mono (ref11_TreeN_ok N A lo hi w hN h) ?_
    rintro v w' ⟨rfl, he⟩
    exact ⟨none, 0, [], rfl, nilS0, fun _ => rfl, fun h => (by cases h), by simp, he⟩
  | true =>
    refine Cal.mono (ref11_TreeX_ok N A lo hi w hN (netOk_iff.1 h)) ?_
    rintro v w' ⟨ad, c, rfl, h1, h2, h3, h4, h5⟩
    exact ⟨ad, c, trX N, rfl, h1, fun h => (by cases h), fun _ => rfl, h3, h5⟩
theorem fun_same {N : Net} {tree : List Int} {l l' : List Cyc} {e e' : Int} (p1 : ¬ FoOk N tree → l = [] ∧ e = 1) (p2 : FoOk N tree → e = 0 ∧ FunR N tree N.acts.length (l.map prC)) (q1 : ¬ FoOk N tree → l' = [] ∧ e' = 1) (q2 : FoOk N tree → e' = 0 ∧ FunR N tree N.acts.length (l'.map prC)) : e = e' ∧ l.map prC = l'.map prC := by
  by_cases h : FoOk N tree
  · have a := p2 h; have b := q2 h
    exact ⟨by rw [a.1, b.1], a.2.uniq h.a b.2⟩
  · have a := p1 h; have b := q1 h
    rw [a.1, a.2, b.1, b.2]; exact ⟨rfl, rfl⟩
theorem pot_same {N : Net} {tree vals p q : List Int} {e e' : Int} (p1 : ¬ FoOk N tree → p = [] ∧ e = 1) (p2 : FoOk N tree → inR N vals = false → p = [] ∧ e = 4) (p3 : FoOk N tree → inR N vals = true → e = 0 ∧ PotOk N tree vals p)
    (q1 : ¬ FoOk N tree → q = [] ∧ e' = 1) (q2 : FoOk N tree → inR N vals = false → q = [] ∧ e' = 4) (q3 : FoOk N tree → inR N vals = true → e' = 0 ∧ ∀ p, PotOk N tree vals p → q = p) : e = e' ∧ p = q ∧ (p.length : Int) ≤ 48 := by
  by_cases h : FoOk N tree
  · cases hr : inR N vals with
    | false => have a := p2 h hr; have b := q2 h hr; rw [a.1, a.2, b.1, b.2]; exact ⟨rfl, rfl, by simp⟩
    | true =>
      have a := p3 h hr; have b := q3 h hr
      have := a.2.len
      have := h.ok.ev
      exact ⟨by rw [a.1, b.1], (b.2 _ a.2).symm, by omega⟩
  · have a := p1 h; have b := q1 h; rw [a.1, a.2, b.1, b.2]; exact ⟨rfl, rfl, by simp⟩
theorem comp_both {N : Net} {l l' : List Int} (p1 : netOk N = false → l = []) (p2 : netOk N = true → CompTo N.evs.length (conB N.acts) N.evs.length l) (q1 : netOk N = false → l' = []) (q2 : netOk N = true → CompTo N.evs.length (conB N.acts) N.evs.length l') : l = l' ∧ (l.length : Int) ≤ 48 := by
  cases h : netOk N with
  | false => rw [p1 h, q1 h]; exact ⟨rfl, by simp⟩
  | true =>
    have := (p2 h).len
    have := (netOk_iff.1 h).ev
    exact ⟨(p2 h).uniq (q2 h), by omega⟩
theorem tree_both {N : Net} {t t' : List Int} (p1 : netOk N = false → t = []) (p2 : netOk N = true → t = trX N ∧ FoOk N (trX N)) (q1 : netOk N = false → t' = []) (q2 : netOk N = true → t' = trX N) : t = t' := by
  cases h : netOk N with
  | false => rw [p1 h, q1 h]
  | true => rw [(p2 h).1, q2 h]
theorem cyc_lens {N : Net} {l : List Cyc} (h : ∀ r ∈ l, CyOk N r.arcs r.signs ∧ r.arcs.length ≤ r.c) : ∀ r ∈ l, (r.arcs.length : Int) ≤ 1000000 ∧ (r.signs.length : Int) ≤ 1000000 := fun r hr => by
  have h1 := (h r hr).1
  have h2 := cy_len h1
  have h3 := h1.len
  have h4 := h1.ok.ac
  omega
theorem u64_nn (v : Int) : 0 ≤ IntKind.u64.wrap v := by
  have e1 : IntKind.u64.wrap v = v % 18446744073709551616 := by simp [IntKind.wrap, IntKind.signed, IntKind.bits]
  rw [e1]; exact Int.emod_nonneg _ (by decide)

set_option maxHeartbeats 4000000 in
set_option maxRecDepth 100000 in
theorem law12_forests_ok (N : Net) (A : NetA) (lo hi : Nat) (tree : List Int) (at_ : Option Addr) (ct lt ht : Nat) (vals : List Int) (av : Option Addr) (cv lv hv_ : Nat) (w : World) (hN : NetIn lo hi w N A) (hT : Ints lt ht w at_ tree) (htn : (tree.length : Int) ≤ 9223372036854775807) (hV : Ints lv hv_ w av vals) (hvn : (vals.length : Int) ≤ 9223372036854775807)  : Cal Try.prog 36 [netV N A, .slice at_ tree.length ct, .slice av vals.length cv] w (fun v w' => v = .bool true ∧ Ext w w') := by
 replace hN := hN.full
 replace hT := Ints.full hT
 replace hV := Ints.full hV
 have hE : Out 0 0 w w := Out.refl _ _ w
 refine enter Try.func36 rfl Try.ntmps36 rfl ?_
 refine wp_seq ?_
 refine rg ?_
 refine sd (d_boxA rfl ?_)
 intro b3 w1 hbb3 hs3 ho2 hb3
 have hz4 := ho2.size
 replace hN := hN.ext ho2
 replace hT := hT.ext ho2
 replace hV := hV.ext ho2
 replace hE := hE.step ho2 (.inl (Nat.le_refl _))
 refine st (asB rfl) ?_
 refine rg_end ?_
 refine n_then ?_
 refine wp_seq ?_
 refine rg ?_
 refine st (y_lbN hb3 agg26 rfl) ?_
 refine st (mvS rfl) ?_
 refine sc cl30 (cycles_Fundamental_ok N A _ _ tree _ _ _ _ _ hN hT htn) rfl ?_
 rintro v9 w5 ⟨ac1, cc1, l1, e1, rfl, hC1, hall1, hll1, p1, p2, ho6⟩
 have hz10 := ho6.size
 replace hN := hN.ext ho6
 replace hT := hT.ext ho6
 replace hV := hV.ext ho6
 replace hE := hE.step ho6 (.inl (Nat.le_refl _))
 replace hb3 := hb3.ext ho6
 refine st (mvT rfl) ?_
 refine st (y_ext rfl rfl) ?_
 refine st (y_ext rfl rfl) ?_
 refine st (asS rfl) ?_
 refine st (asI rfl) ?_
 refine rg_end ?_
 refine n_then ?_
 refine wp_seq ?_
 refine rg ?_
 refine st (y_lbN hb3 agg26 rfl) ?_
 refine st (mvS rfl) ?_
 refine sc cl15 (ref11_FundamentalX_ok N A _ _ tree _ _ _ _ _ hN hT htn) rfl ?_
 rintro v15 w11 ⟨ac2, cc2, l2, e2, rfl, hC2, hall2, hll2, q1, q2, ho12⟩
 obtain ⟨hee, hlp⟩ := fun_same p1 p2 q1 q2
 have hln := cyc_lens hall1
 have hz16 := ho12.size
 replace hN := hN.ext ho12
 replace hT := hT.ext ho12
 replace hV := hV.ext ho12
 replace hE := hE.step ho12 (.inl (Nat.le_refl _))
 replace hb3 := hb3.ext ho12
 replace hC1 := hC1.ext ho12
 refine st (mvT rfl) ?_
 refine st (y_ext rfl rfl) ?_
 refine st (y_ext rfl rfl) ?_
 refine st (asS rfl) ?_
 refine st (asI rfl) ?_
 refine rg_end ?_
 refine n_then ?_
 refine wp_seq ?_
 refine rg ?_
 refine st (y_lbN hb3 agg26 rfl) ?_
 refine st (mvS rfl) ?_
 refine st (mvS rfl) ?_
 refine sc cl18 (cycles_Potentials_ok N A _ _ tree _ _ _ _ vals _ _ _ _ _ hN hT htn hV hvn) rfl ?_
 rintro v21 w17 ⟨ap, cp, pp, e3, rfl, hP1, r1_, r2_, r3_, ho18⟩
 have hz22 := ho18.size
 replace hN := hN.ext ho18
 replace hT := hT.ext ho18
 replace hV := hV.ext ho18
 replace hE := hE.step ho18 (.inl (Nat.le_refl _))
 replace hb3 := hb3.ext ho18
 replace hC1 := hC1.ext ho18
 replace hC2 := hC2.ext ho18
 refine st (mvT rfl) ?_
 refine st (y_ext rfl rfl) ?_
 refine st (y_ext rfl rfl) ?_
 refine st (asS rfl) ?_
 refine st (asI rfl) ?_
 refine rg_end ?_
 refine n_then ?_
 refine wp_seq ?_
 refine rg ?_
 refine st (y_lbN hb3 agg26 rfl) ?_
 refine st (mvS rfl) ?_
 refine st (mvS rfl) ?_
 refine sc cl65 (ref11_Potentials_ok N A _ _ tree _ _ _ _ vals _ _ _ _ _ hN hT htn hV hvn) rfl ?_
 rintro v27 w23 ⟨aq, cq, qq, e4, rfl, hP2, s1_, s2_, s3_, ho24⟩
 obtain ⟨hee2, hpq, hpl⟩ := pot_same r1_ r2_ r3_ s1_ s2_ s3_
 have hz28 := ho24.size
 replace hN := hN.ext ho24
 replace hT := hT.ext ho24
 replace hV := hV.ext ho24
 replace hE := hE.step ho24 (.inl (Nat.le_refl _))
 replace hb3 := hb3.ext ho24
 replace hC1 := hC1.ext ho24
 replace hC2 := hC2.ext ho24
 replace hP1 := hP1.ext ho24
 refine st (mvT rfl) ?_
 refine st (y_ext rfl rfl) ?_
 refine st (y_ext rfl rfl) ?_
 refine st (asS rfl) ?_
 refine st (asI rfl) ?_
 refine rg_end ?_
 refine n_then ?_
 refine wp_seq ?_
 refine rgD 39 (fun w_ => Ext w23 w_) (fun i => Nat.beq i 1 || Nat.beq i 3 || Nat.beq i 4 || Nat.beq i 7 || Nat.beq i 9 || Nat.beq i 10 || Nat.beq i 15 || Nat.beq i 18 || Nat.beq i 24 || Nat.beq i 34) mixed (by kernel_rfl) ?_
 intro w29 ho30 hs31
 refine ⟨ho30, ?_⟩
 have hx32 := ho30
 refine tn rfl (fun _ hG => y_lbN (hb3.ext hG) agg26 rfl) ?_
 refine tc rfl cl27 (cycles_Components_ok N A _ _ _ (hN.ext hx32)) rfl ?_
 rintro v37 w33 ⟨ak1, ck1, k1, rfl, hK1, u1, u2, ho34⟩
 have hx38 := hx32.step ho34 (.inl (Nat.le_refl _))
 have hz39 := ho34.size
 refine ⟨hx38, ?_⟩
 refine tn rfl (fun _ hG => y_lbN (hb3.ext hG) agg26 rfl) ?_
 refine tc rfl cl34 (ref11_Components_ok N A _ _ _ (hN.ext hx38)) rfl ?_
 rintro v44 w40 ⟨ak2, ck2, k2, rfl, hK2, u3, u4, ho41⟩
 obtain ⟨hkk, hkl⟩ := comp_both u1 u2 u3 u4
 have hx45 := hx38.step ho41 (.inl (Nat.le_refl _))
 have hz46 := ho41.size
 replace hK1 := hK1.ext ho41
 refine ⟨hx45, ?_⟩
 refine tc rfl cl32 (keep_Same_int_ok k1 k2 _ _ _ _ _ _ _ _ _ hK1 hK2 (by omega)) rfl ?_
 rintro v51 w47 ⟨rfl, ho48⟩
 have hx52 := hx45.step ho48 (.inl (Nat.le_refl _))
 have hz53 := ho48.size
 replace hK1 := hK1.ext ho48
 replace hK2 := hK2.ext ho48
 refine ⟨hx52, ?_⟩
 refine tn rfl (fun _ hG => mvB rfl) ?_
 refine tng rfl rfl rfl (decide_eq_true hkk) (fun _ hG => y_lbN (hb3.ext hG) agg26 rfl) ?_
 refine tcg rfl rfl rfl (decide_eq_true hkk) cl28 (cycles_Tree_ok N A _ _ _ (hN.ext hx52)) rfl ?_
 rintro v58 w54 ⟨at1, ct1, t1, rfl, hT1, u5, u6, htl1, _, ho55⟩
 have hx59 := hx52.step ho55 (.inl (Nat.le_refl _))
 have hz60 := ho55.size
 replace hK1 := hK1.ext ho55
 replace hK2 := hK2.ext ho55
 refine ⟨hx59, ?_⟩
 refine tng rfl rfl rfl (decide_eq_true hkk) (fun _ hG => y_lbN (hb3.ext hG) agg26 rfl) ?_
 refine tcg rfl rfl rfl (decide_eq_true hkk) cl13 (ref11_TreeB_ok N A _ _ _ (hN.ext hx59)) rfl ?_
 rintro v65 w61 ⟨at2, ct2, t2, rfl, hT2, u7, u8, htl2, ho62⟩
 have htt := tree_both u5 u6 u7 u8
 have hx66 := hx59.step ho62 (.inl (Nat.le_refl _))
 have hz67 := ho62.size
 replace hK1 := hK1.ext ho62
 replace hK2 := hK2.ext ho62
 replace hT1 := hT1.ext ho62
 refine ⟨hx66, ?_⟩
 refine tcg rfl rfl rfl (decide_eq_true hkk) cl32 (keep_Same_int_ok t1 t2 _ _ _ _ _ _ _ _ _ hT1 hT2 (by omega)) rfl ?_
 rintro v72 w68 ⟨rfl, ho69⟩
 have hx73 := hx66.step ho69 (.inl (Nat.le_refl _))
 have hz74 := ho69.size
 replace hK1 := hK1.ext ho69
 replace hK2 := hK2.ext ho69
 replace hT1 := hT1.ext ho69
 replace hT2 := hT2.ext ho69
 refine ⟨hx73, ?_⟩
 refine tn rfl (fun _ hG => y_pickT rfl (decide_eq_true hkk) (v := .bool _) rfl) ?_
 refine tn rfl (fun _ hG => mvB rfl) ?_
 refine tng rfl rfl rfl (decide_eq_true htt) (fun _ hG => y_lbN (hb3.ext hG) agg26 rfl) ?_
 refine tng rfl rfl rfl (decide_eq_true htt) (fun _ hG => mvS rfl) ?_
 refine tcg rfl rfl rfl (decide_eq_true htt) cl44 (cycles_Forest_ok N A _ _ tree _ _ _ _ _ (hN.ext hx73) (hT.ext hx73) htn) rfl ?_
 rintro v79 w75 ⟨b1, rfl, hb1, ho76⟩
 have hx80 := hx73.step ho76 (.inl (Nat.le_refl _))
 have hz81 := ho76.size
 replace hK1 := hK1.ext ho76
 replace hK2 := hK2.ext ho76
 replace hT1 := hT1.ext ho76
 replace hT2 := hT2.ext ho76
 refine ⟨hx80, ?_⟩
 refine tng rfl rfl rfl (decide_eq_true htt) (fun _ hG => y_lbN (hb3.ext hG) agg26 rfl) ?_
 refine tng rfl rfl rfl (decide_eq_true htt) (fun _ hG => mvS rfl) ?_
 refine tcg rfl rfl rfl (decide_eq_true htt) cl29 (ref11_Forest_ok N A _ _ tree _ _ _ _ _ (hN.ext hx80) (hT.ext hx80) htn) rfl ?_
 rintro v86 w82 ⟨b2, rfl, hb2, ho83⟩
 have hbb := bool_same hb1 hb2
 have hx87 := hx80.step ho83 (.inl (Nat.le_refl _))
 have hz88 := ho83.size
 replace hK1 := hK1.ext ho83
 replace hK2 := hK2.ext ho83
 replace hT1 := hT1.ext ho83
 replace hT2 := hT2.ext ho83
 refine ⟨hx87, ?_⟩
 refine tng rfl rfl rfl (decide_eq_true htt) (fun _ hG => y_eqlB rfl rfl Try.underlying4) ?_
 refine tn rfl (fun _ hG => y_pickT rfl (decide_eq_true htt) (v := .bool _) rfl) ?_
 refine tn rfl (fun _ hG => mvB rfl) ?_
 refine tng rfl rfl rfl hbb (fun _ hG => mvS rfl) ?_
 refine tng rfl rfl rfl hbb (fun _ hG => mvS rfl) ?_
 refine tcg rfl rfl rfl hbb cl33 (keep_SameCycles_ok l1 l2 _ _ _ _ _ _ _ _ _ (hC1.ext hx87) (hC2.ext hx87) (by omega) hln) rfl ?_
 rintro v93 w89 ⟨rfl, ho90⟩
 have hx94 := hx87.step ho90 (.inl (Nat.le_refl _))
 have hz95 := ho90.size
 replace hK1 := hK1.ext ho90
 replace hK2 := hK2.ext ho90
 replace hT1 := hT1.ext ho90
 replace hT2 := hT2.ext ho90
 refine ⟨hx94, ?_⟩
 refine tn rfl (fun _ hG => y_pickT rfl hbb (v := .bool _) rfl) ?_
 refine tn rfl (fun _ hG => mvB rfl) ?_
 refine tng rfl rfl rfl (decide_eq_true hlp) (fun _ hG => mvI rfl) ?_
 refine tng rfl rfl rfl (decide_eq_true hlp) (fun _ hG => mvI rfl) ?_
 refine tng rfl rfl rfl (decide_eq_true hlp) (fun _ hG => y_eql rfl rfl) ?_
 refine tn rfl (fun _ hG => y_pickT rfl (decide_eq_true hlp) (v := .bool _) rfl) ?_
 refine tn rfl (fun _ hG => mvB rfl) ?_
 refine tng rfl rfl rfl (decide_eq_true hee) (fun _ hG => mvS rfl) ?_
 refine tng rfl rfl rfl (decide_eq_true hee) (fun _ hG => mvS rfl) ?_
 refine tcg rfl rfl rfl (decide_eq_true hee) cl32 (keep_Same_int_ok pp qq _ _ _ _ _ _ _ _ _ (hP1.ext hx94) (hP2.ext hx94) (by omega)) rfl ?_
 rintro v100 w96 ⟨rfl, ho97⟩
 have hx101 := hx94.step ho97 (.inl (Nat.le_refl _))
 have hz102 := ho97.size
 replace hK1 := hK1.ext ho97
 replace hK2 := hK2.ext ho97
 replace hT1 := hT1.ext ho97
 replace hT2 := hT2.ext ho97
 refine ⟨hx101, ?_⟩
 refine tn rfl (fun _ hG => y_pickT rfl (decide_eq_true hee) (v := .bool _) rfl) ?_
 refine tn rfl (fun _ hG => mvB rfl) ?_
 refine tng rfl rfl rfl (decide_eq_true hpq) (fun _ hG => mvI rfl) ?_
 refine tng rfl rfl rfl (decide_eq_true hpq) (fun _ hG => mvI rfl) ?_
 refine t_end ?_
 have hz103 := hx101.size
 replace hN := hN.ext hx101
 replace hT := hT.ext hx101
 replace hV := hV.ext hx101
 replace hE := hE.step hx101 (.inl (Nat.le_refl _))
 replace hb3 := hb3.ext hx101
 replace hC1 := hC1.ext hx101
 replace hC2 := hC2.ext hx101
 replace hP1 := hP1.ext hx101
 replace hP2 := hP2.ext hx101
 refine stg rfl rfl (decide_eq_true hpq) (y_eql rfl rfl) ?_
 refine st (y_pickT rfl (decide_eq_true hpq) (v := .bool _) rfl) ?_
 refine st (asB rfl) ?_
 refine rg_end ?_
 refine n_then ?_
 refine wp_ret ?_
 refine ret1 (v := (.bool _)) Try.results36 rfl ?_
 exact ⟨vb (by simp [hee2]), hE⟩

set_option maxRecDepth 100000 in
theorem law12_listB_ok (al : Option Addr) (cl : Nat) (l : List Int) (ll hl : Nat) (m : Nat) (w : World) (hL : Ints ll hl w al l) (hn : (l.length : Int) ≤ 9223372036854775807) (hm8 : m ≤ 512) : Cal Try.prog 14 [.slice al l.length cl, .int .i64 (m : Int)] w (fun v w' => ∃ ad c x, v = .slice ad x.length c ∧ Ints w.heap.size w'.heap.size w' ad x ∧ x.length = m ∧ m ≤ c ∧ (∀ q : Nat, q < m → -50 ≤ el x (q : Int) ∧ el x (q : Int) ≤ 50) ∧ Ext w w') := by
 replace hL := Ints.full hL
 have hE : Out 0 0 w w := Out.refl _ _ w
 refine enter Try.func14 rfl Try.ntmps14 rfl ?_
 refine wp_seq ?_
 refine rg ?_
 refine st (asS rfl) ?_
 refine rg_end ?_
 refine n_then ?_
 refine wp_seq ?_
 refine rg ?_
 refine st (mvI rfl) ?_
 refine sd (d_make (m := m) (lo := w.heap.size) (enc := Wk.encI) (e0 := (0 : Int)) sl22 info3 (fun _ => rfl) rfl rfl rfl (by omega) (by unfold maxLen; omega) (by omega) ?_)
 intro blx w1 hbblx hs3 ho2 hm
 have hz5 := ho2.size
 replace hL := hL.ext ho2
 replace hE := hE.step ho2 (.inl (Nat.le_refl _))
 refine st (asS rfl) ?_
 refine rg_end ?_
 refine n_then ?_
 refine wp_seq ?_
 refine rg ?_
 refine st (mvS rfl) ?_
 refine sc cl37 (keep_From_ok _ _ _ _ _ _ hL hn) rfl ?_
 rintro v10 w6 ⟨bs, rfl, hbs, hzs, hS, ho7⟩
 have hz11 := ho7.size
 replace hL := hL.ext ho7
 replace hE := hE.step ho7 (.inl (Nat.le_refl _))
 replace hm := hm.ext ho7
 refine st (asP rfl) ?_
 refine rg_end ?_
 refine n_then ?_
 refine wp_seq ?_
 refine wp_seq ?_
 refine rg ?_
 refine st (mvS rfl) ?_
 refine st (y_len Try.underlying22 rfl) ?_
 refine st (mvI rfl) ?_
 refine rg_end ?_
 refine n_then ?_
 refine wp_block ?_
 refine lp (γ := Nat × List Int) [7, 14, 15, 16, 17, 18, 19, 20, 21, 22, 23] (fun ⟨k, x⟩ => [(14, .int .i64 (k : Int))]) (fun ⟨k, x⟩ w_ => Out blx (bs + 1) w6 w_ ∧ (k : Int) ≤ m ∧ x.length = m ∧ (∀ q : Nat, q < k → -50 ≤ el x (q : Int) ∧ el x (q : Int) ≤ 50) ∧ Src 0 w.heap.size bs w_ ∧ Ow 3 Wk.encI 1 w.heap.size (blx + 1) w_ (some ⟨blx, 0, none⟩) m x) (fun ⟨k, x⟩ => m - k) (0, List.replicate m 0) ⟨rfl, trivial⟩ ⟨Out.refl _ _ _, by simp, by simp, (fun q hq => by omega), hS, hm⟩ ?_
 rintro ⟨k, x⟩ hav_ w12 ⟨ho13, hk, hxl, hrg, hS, hm⟩
 have hlp0 := ho13
 have hz14 := ho13.size
 replace hL := hL.out ho13 (by first | omega | (simp only [blk_some, hi1_some] at *; omega))
 replace hE := hE.step ho13 (by first | omega | (simp only [blk_some, hi1_some] at *; omega))
 refine wp_seq ?_
 refine rg ?_
 refine st (y_lss rfl rfl) ?_
 refine rg_end ?_
 refine n_then ?_
 refine wp_seq ?_
 refine cnd rfl (fun hc0 => ?_) (fun hc0 => ?_)
 ·
  try simp only [nm] at hc0
  refine wp_skip ?_
  refine n_then ?_
  refine wp_seq ?_
  refine wp_block ?_
  refine wp_seq ?_
  refine rg ?_
  refine st (mvI rfl) ?_
  refine st (asI rfl) ?_
  refine rg_end ?_
  refine n_then ?_
  refine rg ?_
  refine st (mvS rfl) ?_
  refine st (mvI rfl) ?_
  refine st (mvP rfl) ?_
  refine sc cl38 (keep_Next_ok bs _ _ _ _ hS (by omega) (by omega) (by omega)) rfl ?_
  rintro v19 w15 ⟨r, rfl, r0, r1, hS, ho16⟩
  have hz20 := ho16.size
  replace hL := hL.out ho16 (by first | omega | (simp only [blk_some, hi1_some] at *; omega))
  replace hE := hE.step ho16 (by first | omega | (simp only [blk_some, hi1_some] at *; omega))
  have hrnhm := hm.rng
  replace hm := hm.out ho16 (by first | omega | (simp only [blk_some, hi1_some] at *; omega))
  replace hlp0 := hlp0.step ho16 (by first | omega | (simp only [blk_some, hi1_some] at *; omega))
  refine st (y_sub rfl rfl (by omega)) ?_
  refine st (y_ix hm.sl sl22 rfl (hxl.symm) rfl (by omega) (by omega)) ?_
  refine sd0 (d_se (j := 0) (e' := (r - 50)) hm sz3 rfl rfl rfl (by omega) (by omega) (Nat.le_of_ble_eq_true rfl) rfl ?_)
  intro w21 hs23 ho22 hm'
  have hrhm := hm.rng
  clear hm; have hm := hm'; clear hm'
  have hz24 := ho22.size
  replace hL := hL.out ho22 (by first | omega | (simp only [blk_some, hi1_some] at *; omega))
  replace hE := hE.step ho22 (by first | omega | (simp only [blk_some, hi1_some] at *; omega))
  replace hS := hS.out ho22 (by first | omega | (simp only [blk_some, hi1_some] at *; omega))
  replace hlp0 := hlp0.step ho22 (by first | omega | (simp only [blk_some, hi1_some] at *; omega))
  refine rg_end ?_
  refine n_blk ?_
  refine n_then ?_
  refine rg ?_
  refine st (y_add rfl rfl (by omega)) ?_
  refine st (mvI rfl) ?_
  refine rg_end ?_
  exact n_then ⟨(k + 1, _), _, rfl, same_lk rfl (same_h0), ⟨rfl, trivial⟩, ⟨hlp0, by omega, by simp [hxl], (fun q hq => by
  by_cases e : q = k
  · subst e; rw [elSetS (by omega) (by omega)]; omega
  · rw [elSetN (by omega) (by omega) (by omega)]; exact hrg q (by omega)), hS, hm⟩, by first | omega | (dsimp only; omega)⟩
 ·
  try simp only [nm] at hc0
  refine wp_exit ?_
  refine e_then (e_then (e_blk (?_)))
  refine n_then ?_
  refine wp_seq ?_
  refine rg ?_
  refine st (mvS rfl) ?_
  refine st (asS rfl) ?_
  refine rg_end ?_
  refine n_then ?_
  refine wp_ret ?_
  refine ret1 (v := (.slice _ _ _)) Try.results14 rfl ?_
  exact ⟨_, _, x, by rw [hxl], Sl.wide hm.sl (Nat.le_refl _) (by omega), hxl, (by have := hm.lenLe; omega), fun q hq => hrg q (by omega), hE⟩

set_option maxHeartbeats 4000000 in
set_option maxRecDepth 100000 in
theorem law12_CyclesForests_ok (a0 : Option Addr) (c0 : Nat) (l0 : List Int) (a1 : Option Addr) (c1 : Nat) (l1 : List Int) (pk : Int) (w : World) (hL0 : Ints 0 w.heap.size w a0 l0) (hl0 : (l0.length : Int) ≤ 9223372036854775807) (hL1 : Ints 0 w.heap.size w a1 l1) (hl1 : (l1.length : Int) ≤ 9223372036854775807) : Cal Try.prog 10 [.slice a0 l0.length c0, .slice a1 l1.length c1, .int .i64 pk] w (fun v w' => v = .bool true ∧ Ext w w') := by
 have hE : Out 0 0 w w := Out.refl _ _ w
 refine enter Try.func10 rfl Try.ntmps10 rfl ?_
 refine wp_seq ?_
 refine rg ?_
 refine st (asB rfl) ?_
 refine rg_end ?_
 refine n_then ?_
 refine wp_seq ?_
 refine rg ?_
 refine st (mvS rfl) ?_
 refine sc cl12 (keep_Network_ok _ _ _ _ _ _ hL0 hl0) rfl ?_
 rintro v5 w1 ⟨N, A, rfl, hsm, hev, hac, hdis, ho2⟩
 have hN : NetIn _ _ _ N A := ⟨Ow.sl hev, Ow.sl hac⟩
 clear hev hac
 have hok := hsm.1
 have hev1 := hok.ev
 have hac8 := hsm.2.2.2.2.2.1
 have hp2 := hsm.2.1
 have hp9 := hsm.2.2.1
 have hz6 := ho2.size
 replace hL0 := hL0.ext ho2
 replace hL1 := hL1.ext ho2
 replace hE := hE.step ho2 (.inl (Nat.le_refl _))
 refine sd (d_allocA zer26 ?_)
 intro b7 w7 hbb7 hs9 ho8 hb7
 have hz10 := ho8.size
 replace hL0 := hL0.ext ho8
 replace hL1 := hL1.ext ho8
 replace hE := hE.step ho8 (.inl (Nat.le_refl _))
 replace hN := hN.ext ho8
 refine sd0 (d_stN hb7 rfl rfl sz26 rfl rfl ?_)
 intro w11 hs13 ho12 hb7'
 clear hb7; have hb7 := hb7'; clear hb7'
 have hz14 := ho12.size
 replace hL0 := hL0.out ho12 (by first | omega | (simp only [blk_some, hi1_some] at *; omega))
 replace hL1 := hL1.out ho12 (by first | omega | (simp only [blk_some, hi1_some] at *; omega))
 replace hE := hE.step ho12 (by first | omega | (simp only [blk_some, hi1_some] at *; omega))
 replace hN := hN.out ho12 (by first | omega | (simp only [blk_some, hi1_some] at *; omega))
 refine rg_end ?_
 refine n_then ?_
 refine wp_seq ?_
 refine rg ?_
 refine st (mvS rfl) ?_
 refine st (y_fld fld26_2 rfl) ?_
 refine st (y_lb hb7 na24 rfl rfl) ?_
 refine st (y_len Try.underlying24 rfl) ?_
 refine sc cl14 (law12_listB_ok _ _ _ _ _ N.acts.length _ hL1 hl1 (by omega)) rfl ?_
 rintro v19 w15 ⟨al_, cl_, vals, rfl, hV, hvl, hvc, hvr, ho16⟩
 have hz20 := ho16.size
 replace hL0 := hL0.ext ho16
 replace hL1 := hL1.ext ho16
 replace hE := hE.step ho16 (.inl (Nat.le_refl _))
 replace hN := hN.ext ho16
 replace hb7 := hb7.ext ho16
 refine st (asS rfl) ?_
 refine rg_end ?_
 refine n_then ?_
 refine wp_seq ?_
 refine rg ?_
 refine st (asS rfl) ?_
 refine rg_end ?_
 refine n_then ?_
 refine wp_seq ?_
 refine wp_seq ?_
 refine rg ?_
 refine st (y_fld fld26_2 rfl) ?_
 refine st (y_lb hb7 na24 rfl rfl) ?_
 refine st (y_len Try.underlying24 rfl) ?_
 refine st (mvI rfl) ?_
 refine rg_end ?_
 refine n_then ?_
 refine wp_block ?_
 obtain ⟨z1, hz1⟩ : ∃ z, z = w15.heap.size := ⟨_, rfl⟩
 refine lp (γ := Nat × List Int × Option Addr × Nat) [9, 10, 21, 22, 23, 24, 25, 26, 27, 28, 29, 30, 31, 32, 33, 34] (fun ⟨k, sm, as_, cs⟩ => [(21, .int .i64 (k : Int)), (9, .slice as_ sm.length cs)]) (fun ⟨k, sm, as_, cs⟩ w_ => Ext w15 w_ ∧ k ≤ N.acts.length ∧ sm.length ≤ k ∧ Ow 3 Wk.encI 1 z1 w_.heap.size w_ as_ cs sm) (fun ⟨k, sm, as_, cs⟩ => N.acts.length - k) (0, [], none, 0) ⟨rfl, rfl, trivial⟩ ⟨Out.refl _ _ _, by omega, by simp, Ow.nil (fun _ => rfl)⟩ ?_
 rintro ⟨k, sm, as_, cs⟩ hav_ w21 ⟨ho22, hk, hsk, hS⟩
 have hlp0 := ho22
 have hz23 := ho22.size
 replace hL0 := hL0.ext ho22
 replace hL1 := hL1.ext ho22
 replace hE := hE.step ho22 (.inl (Nat.le_refl _))
 replace hN := hN.ext ho22
 replace hb7 := hb7.ext ho22
 replace hV := hV.ext ho22
 refine wp_seq ?_
 refine rg ?_
 refine st (y_lss rfl rfl) ?_
 refine rg_end ?_
 refine n_then ?_
 refine wp_seq ?_
 refine cnd rfl (fun hc0 => ?_) (fun hc0 => ?_)
 ·
  try simp only [nm] at hc0
  refine wp_skip ?_
  refine n_then ?_
  refine wp_seq ?_
  refine wp_block ?_
  refine wp_seq ?_
  refine rg ?_
  refine st (mvI rfl) ?_
  refine st (asI rfl) ?_
  refine rg_end ?_
  refine n_then ?_
  refine wp_seq ?_
  refine rg ?_
  refine st (mvI rfl) ?_
  refine st (mvI rfl) ?_
  refine st (y_conv rfl rfl Try.underlying57) ?_
  refine st (y_shr rfl rfl (u64_nn _)) ?_
  refine st (y_and rfl rfl) ?_
  refine st (y_eql rfl rfl) ?_
  refine rg_end ?_
  refine n_then ?_
  refine cnd rfl (fun hc1 => ?_) (fun hc1 => ?_)
  ·
   try simp only [nm] at hc1
   refine rg ?_
   refine st (mvS rfl) ?_
   refine st (mvI rfl) ?_
   refine sd (d_bs (bsl22_1 _ _) rfl ?_)
   intro bl27 w24 hbbl27 hs26 ho25 hbl27
   have hz28 := ho25.size
   replace hL0 := hL0.ext ho25
   replace hL1 := hL1.ext ho25
   replace hE := hE.step ho25 (.inl (Nat.le_refl _))
   replace hN := hN.ext ho25
   replace hb7 := hb7.ext ho25
   replace hV := hV.ext ho25
   replace hS := hS.ext ho25
   replace hlp0 := hlp0.step ho25 (.inl (Nat.le_refl _))
   have hrhS := hS.rng
   refine sd (d_app (xs := [(k : Int)]) hS sl22 infoz3 (by decide) rfl rfl rfl rfl (hbl27) (fun _ => rfl) (by simp; unfold maxLen; omega) (by simp; omega) (by omega) (by omega) ?_)
   intro as1 cs1 w29 ho30 hS'
   have hs31 := ho30.size
   clear hS; have hS := hS'; clear hS'
   have hz34 := ho30.size
   replace hL0 := hL0.out ho30 (by first | omega | (simp only [blk_some, hi1_some] at *; omega))
   replace hL1 := hL1.out ho30 (by first | omega | (simp only [blk_some, hi1_some] at *; omega))
   replace hE := hE.step ho30 (by first | omega | (simp only [blk_some, hi1_some] at *; omega))
   replace hN := hN.out ho30 (by first | omega | (simp only [blk_some, hi1_some] at *; omega))
   replace hb7 := hb7.out ho30 (by first | omega | (simp only [blk_some, hi1_some] at *; omega))
   replace hV := hV.out ho30 (by first | omega | (simp only [blk_some, hi1_some] at *; omega))
   replace hlp0 := hlp0.step ho30 (by first | omega | (simp only [blk_some, hi1_some] at *; omega))
   refine st (asS rfl) ?_
   refine rg_end ?_
   refine n_blk ?_
   refine n_then ?_
   refine rg ?_
   refine st (y_add rfl rfl (by omega)) ?_
   refine st (mvI rfl) ?_
   refine rg_end ?_
   exact n_then ⟨(k + 1, _, _, _), _, rfl, same_lk rfl (same_h0), ⟨rfl, rfl, trivial⟩, ⟨hlp0, by omega, by first | omega | (simp; omega), hS.wide (by omega)⟩, by first | omega | (dsimp only; omega)⟩
  ·
   try simp only [nm] at hc1
   refine wp_skip ?_
   refine n_blk ?_
   refine n_then ?_
   refine rg ?_
   refine st (y_add rfl rfl (by omega)) ?_
   refine st (mvI rfl) ?_
   refine rg_end ?_
   exact n_then ⟨(k + 1, _, _, _), _, rfl, same_lk rfl (same_h0), ⟨rfl, rfl, trivial⟩, ⟨hlp0, by omega, by first | omega | (simp; omega), hS.wide (by omega)⟩, by first | omega | (dsimp only; omega)⟩
 ·
  try simp only [nm] at hc0
  refine wp_exit ?_
  refine e_then (e_then (e_blk (?_)))
  refine n_then ?_
  refine wp_seq ?_
  have hSr := hS.rng
  refine rgD 25 (fun w_ => Out (blk as_) (hi1 as_) w21 w_) (fun i => Nat.beq i 0 || Nat.beq i 4 || Nat.beq i 6 || Nat.beq i 12 || Nat.beq i 18 || Nat.beq i 19) mixed (by kernel_rfl) ?_
  intro w35 ho36 hs37
  refine ⟨ho36.wide (.inl (Nat.le_refl _)), ?_⟩
  have hx38 := ho36.wide (a' := (blk as_)) (b' := (hi1 as_)) (.inl (Nat.le_refl _))
  replace hS := hS.ext ho36
  refine tc rfl cl19 (law12_awake_ok _) rfl ?_
  rintro v43 w39 ⟨rfl, ho40⟩
  have hx44 := hx38.step ho40 (.inl (Nat.le_refl _))
  have hz45 := ho40.size
  replace hS := hS.ext ho40
  refine ⟨hx44, ?_⟩
  refine tn rfl (fun _ hG => mvB rfl) ?_
  refine tng rfl rfl rfl rfl (fun _ hG => y_lbN (hb7.out hG (by first | omega | (simp only [blk_some, hi1_some] at *; omega))) agg26 rfl) ?_
  refine tng rfl rfl rfl rfl (fun _ hG => y_lbN (hb7.out hG (by first | omega | (simp only [blk_some, hi1_some] at *; omega))) agg26 rfl) ?_
  refine tcg rfl rfl rfl rfl cl13 (ref11_TreeX_ok N A _ _ _ (hN.out hx44 (by first | omega | (simp only [blk_some, hi1_some] at *; omega))) hok) rfl ?_
  rintro v50 w46 ⟨at1, ct1, rfl, hTr, hfo, htl, htc, ho47⟩
  have hx51 := hx44.step ho47 (.inl (Nat.le_refl _))
  have hz52 := ho47.size
  replace hS := hS.ext ho47
  refine ⟨hx51, ?_⟩
  refine tng rfl rfl rfl rfl (fun _ hG => mvS rfl) ?_
  refine tcg rfl rfl rfl rfl cl36 (law12_forests_ok N A _ _ (trX N) _ _ _ _ vals _ _ _ _ _ (hN.out hx51 (by first | omega | (simp only [blk_some, hi1_some] at *; omega))) hTr (by first | omega | (simp; omega)) (hV.out hx51 (by first | omega | (simp only [blk_some, hi1_some] at *; omega))) (by first | omega | (simp; omega))) rfl ?_
  rintro v57 w53 ⟨rfl, ho54⟩
  have hx58 := hx51.step ho54 (.inl (Nat.le_refl _))
  have hz59 := ho54.size
  replace hS := hS.ext ho54
  replace hTr := hTr.ext ho54
  refine ⟨hx58, ?_⟩
  refine tn rfl (fun _ hG => y_pickT rfl rfl (v := .bool _) rfl) ?_
  refine tn rfl (fun _ hG => mvB rfl) ?_
  refine tng rfl rfl rfl rfl (fun _ hG => y_lbN (hb7.out hG (by first | omega | (simp only [blk_some, hi1_some] at *; omega))) agg26 rfl) ?_
  refine tng rfl rfl rfl rfl (fun _ hG => mvS rfl) ?_
  refine tng rfl rfl rfl rfl (fun _ hG => mvS rfl) ?_
  refine tcg rfl rfl rfl rfl cl36 (law12_forests_ok N A _ _ sm _ _ _ _ vals _ _ _ _ _ (hN.out hx58 (by first | omega | (simp only [blk_some, hi1_some] at *; omega))) (Ow.sl hS) (by first | omega | (simp; omega)) (hV.out hx58 (by first | omega | (simp only [blk_some, hi1_some] at *; omega))) (by first | omega | (simp; omega))) rfl ?_
  rintro v64 w60 ⟨rfl, ho61⟩
  have hx65 := hx58.step ho61 (.inl (Nat.le_refl _))
  have hz66 := ho61.size
  replace hS := hS.ext ho61
  replace hTr := hTr.ext ho61
  refine ⟨hx65, ?_⟩
  refine tn rfl (fun _ hG => y_pickT rfl rfl (v := .bool _) rfl) ?_
  refine tn rfl (fun _ hG => mvB rfl) ?_
  refine tng rfl rfl rfl rfl (fun _ hG => y_lbN (hb7.out hG (by first | omega | (simp only [blk_some, hi1_some] at *; omega))) agg26 rfl) ?_
  refine tng rfl rfl rfl rfl (fun _ hG => mvS rfl) ?_
  refine tng rfl rfl rfl rfl (fun _ hG => mvI rfl) ?_
  refine tdg rfl rfl rfl rfl (d_bs (bsl22_1 _ _) rfl ?_)
  intro bl70 w67 hbbl70 hs69 ho68 hbl70
  have hx71 := hx65.step ho68 (.inl (Nat.le_refl _))
  have hz72 := ho68.size
  replace hS := hS.ext ho68
  replace hTr := hTr.ext ho68
  refine ⟨hx71, ?_⟩
  have hrhS := hS.rng
  refine tdg rfl rfl rfl rfl (d_app (xs := [pk]) hS sl22 infoz3 (by decide) rfl rfl rfl rfl (hbl70) (fun _ => rfl) (by simp; unfold maxLen; omega) (by simp; omega) (by omega) (by omega) ?_)
  intro as2 cs2 w73 ho74 hS'
  have hs75 := ho74.size
  clear hS; have hS := hS'; clear hS'
  have hx78 : Out (blk as_) (hi1 as_) w21 w73 := hx71.step ho74 (by first | omega | (simp only [blk_some, hi1_some] at *; omega))
  replace hTr := hTr.out ho74 (by first | omega | (simp only [blk_some, hi1_some] at *; omega))
  replace hbl70 := hbl70.out ho74 (by first | omega | (simp only [blk_some, hi1_some] at *; omega))
  refine ⟨hx78, ?_⟩
  refine tng rfl rfl rfl rfl (fun _ hG => mvS rfl) ?_
  refine tng rfl rfl rfl rfl (fun _ hG => mvS rfl) ?_
  refine tng rfl rfl rfl rfl (fun _ hG => y_len Try.underlying22 rfl) ?_
  refine tng rfl rfl rfl rfl (fun _ hG => y_quo rfl rfl (by omega) (by omega)) ?_
  rw [show ((vals.length : Nat) : Int).tdiv 2 = ((vals.length / 2 : Nat) : Int) from by rw [Int.tdiv_eq_ediv_of_nonneg (by omega)]; omega]
  refine tng rfl rfl rfl rfl (fun _ hG => y_slh sl22 rfl rfl (by omega) (by omega)) ?_
  rw [show (((vals.length / 2 : Nat) : Int)).toNat = (vals.take (vals.length / 2)).length from by rw [List.length_take]; omega]
  refine t_end ?_
  have hz79 := hx78.size
  replace hL0 := hL0.out hx78 (by first | omega | (simp only [blk_some, hi1_some] at *; omega))
  replace hL1 := hL1.out hx78 (by first | omega | (simp only [blk_some, hi1_some] at *; omega))
  replace hE := hE.step hx78 (by first | omega | (simp only [blk_some, hi1_some] at *; omega))
  replace hN := hN.out hx78 (by first | omega | (simp only [blk_some, hi1_some] at *; omega))
  replace hb7 := hb7.out hx78 (by first | omega | (simp only [blk_some, hi1_some] at *; omega))
  replace hV := hV.out hx78 (by first | omega | (simp only [blk_some, hi1_some] at *; omega))
  refine scg rfl rfl rfl cl36 (law12_forests_ok N A _ _ (sm ++ [pk]) _ _ _ _ (vals.take (vals.length / 2)) _ _ _ _ _ hN (Ow.sl hS) (by first | omega | (simp; omega)) (Sl.take hV (vals.length / 2)) (by first | omega | (simp; omega))) rfl ?_
  rintro v84 w80 ⟨rfl, ho81⟩
  have hz85 := ho81.size
  replace hL0 := hL0.ext ho81
  replace hL1 := hL1.ext ho81
  replace hE := hE.step ho81 (.inl (Nat.le_refl _))
  replace hN := hN.ext ho81
  replace hb7 := hb7.ext ho81
  replace hV := hV.ext ho81
  replace hTr := hTr.ext ho81
  replace hbl70 := hbl70.ext ho81
  replace hS := hS.ext ho81
  refine st (y_pickT rfl rfl (v := .bool _) rfl) ?_
  refine st (asB rfl) ?_
  refine rg_end ?_
  refine n_then ?_
  refine wp_ret ?_
  refine ret1 (v := (.bool _)) Try.results10 rfl ?_
  exact ⟨vb (by simp), hE⟩
end Go.Proofs.Ytdgkaahghlbocaa
