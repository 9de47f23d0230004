/- WeightTells: any numbers of any tree's nodes have the sums, and any weights, with any that came, and went, are, or are not, what the document says. No conditions. -/
import Derived.Test.YtdeeplfbdoapmaaWeightMake
import Derived.Test.YtdeeplfbdoapmaaWeightRefPass
namespace Go.Proofs.Ytdeeplfbdoapmaa
open Go.RowKit Go.WideShapes Go.ChangeShapes
set_option linter.unusedVariables false
set_option linter.unusedSimpArgs false






theorem rsubs_is (A : Option Addr) (n c : Nat) (NS : List Node) (B : Option Addr) (m d : Nat) (l : List Int) (b : Bool) (r : List Int) (hb : (Weight.subV NS l).isSome = b) (hr : (Weight.subV NS l).getD [] = r) (w : World) (h : NL w A n c NS) (hl : Ints w .u64 B m d l) :
    Calls Try.prog 11 #[.agg #[.slice A n c], .slice B m d] w fun e w' => (∃ v, e = .returned (.tuple #[v, .bool b]) ∧ IsInts w' .u64 v r) ∧ Ext w w' := by
  subst hb hr
  exact (rsubs_any A n c NS B m d l w h hl).mono fun e w' ⟨⟨v, he, hv⟩, hx⟩ => ⟨⟨v, he, hv.ints⟩, hx⟩
theorem rpass_is (A : Option Addr) (n c : Nat) (NS : List Node) (WA : Option Addr) (wn wc : Nat) (lw : List Int) (PA : Option Addr) (pn pc : Nat) (lp : List Int) (MA : Option Addr) (mn mc : Nat) (lm : List Int) (b : Bool) (r : List Int) (hb : (Weight.passV NS lw lp lm).isSome = b) (hr : (Weight.passV NS lw lp lm).getD [] = r) (w : World) (h : NL w A n c NS) (hw : Ints w .u64 WA wn wc lw) (hp : Ints w .u64 PA pn pc lp) (hmi : Ints w .u64 MA mn mc lm) :
    Calls Try.prog 13 #[.agg #[.slice A n c], .slice WA wn wc, .slice PA pn pc, .slice MA mn mc] w fun e w' => (∃ v, e = .returned (.tuple #[v, .bool b]) ∧ IsInts w' .u64 v r) ∧ Ext w w' := by
  subst hb hr
  exact (rpass_any A n c NS WA wn wc lw PA pn pc lp MA mn mc lm w h hw hp hmi).mono fun e w' ⟨⟨v, he, hv⟩, hx⟩ => ⟨⟨v, he, hv.ints⟩, hx⟩
theorem wsame_is (A : Option Addr) (n c : Nat) (B : Option Addr) (n' d : Nat) (l m : List Int) (q : Bool) (hq : decide (l = m) = q) (w : World) (h : Ints w .u64 A n c l) (g : Ints w .u64 B n' d m) :
    Calls Try.prog 15 #[.slice A n c, .slice B n' d] w fun e w' => e = .returned (.bool q) ∧ Ext w w' := by
  subst hq; exact wsame_any A n c B n' d l m w h g
set_option maxHeartbeats 2000000 in
theorem WeightTells_walk {w : World} (tA : Option Addr) (tn tc : Nat) (t : List Node) (ht : NL w tA tn tc t) (wA : Option Addr) (wn wc : Nat) (lw : List Int) (hw : Ints w .u64 wA wn wc lw) (pA : Option Addr) (pn pc : Nat) (lp : List Int) (hp : Ints w .u64 pA pn pc lp) (mA : Option Addr) (mn mc : Nat) (lm : List Int) (hmi : Ints w .u64 mA mn mc lm) :
    Calls Try.prog 3 #[.agg #[.slice tA tn tc], .slice wA wn wc, .slice pA pn pc, .slice mA mn mc] w fun e' w' => e' = .returned (.bool true) ∧ Ext w w' := by
  have HAW := Lib.hid (fun W => awake_any W)
  by_cases h1 : 20 < tn
  · have g1 : (20 : Int) < tn := by omega
    go_enter Try.func3, Try.ntmps3
    try simp only [List.append_eq, List.cons_append, List.nil_append]
    go_wp2_with fail
    refine (HAW.out _).mono ?_
    rintro e0 w0 ⟨rfl, hx0⟩
    have k0 : Ext w w0 := Ext.trans ((by repeat (first | assumption | exact Ext.refl _ | refine Ext.alloc ?_ _ | refine Ext.drew ?_ | refine Ext.drewN ?_ _ | refine Ext.setCell ?_ (by first | (simp; done) | omega | (simp; omega)) _ | refine Ext.trans (by assumption) ?_))) hx0
    have t0 := hx0.cell (p := ⟨w.heap.size, 0, none⟩) (v := .slice tA tn tc) (by first | (simp; done) | (simp (maxDischargeDepth := 7) [go_sem]; done))
    clear HAW
    go_wp2
    go_ret
    exact ⟨rfl, k0⟩
  have g1 : ¬ (20 : Int) < tn := by omega
  by_cases h2 : 40 < wn
  · have g2 : (40 : Int) < wn := by omega
    go_enter Try.func3, Try.ntmps3
    try simp only [List.append_eq, List.cons_append, List.nil_append]
    go_wp2_with fail
    refine (HAW.out _).mono ?_
    rintro e0 w0 ⟨rfl, hx0⟩
    have k0 : Ext w w0 := Ext.trans ((by repeat (first | assumption | exact Ext.refl _ | refine Ext.alloc ?_ _ | refine Ext.drew ?_ | refine Ext.drewN ?_ _ | refine Ext.setCell ?_ (by first | (simp; done) | omega | (simp; omega)) _ | refine Ext.trans (by assumption) ?_))) hx0
    have t0 := hx0.cell (p := ⟨w.heap.size, 0, none⟩) (v := .slice tA tn tc) (by first | (simp; done) | (simp (maxDischargeDepth := 7) [go_sem]; done))
    clear HAW
    go_wp2
    go_ret
    exact ⟨rfl, k0⟩
  have g2 : ¬ (40 : Int) < wn := by omega
  by_cases h3 : 40 < pn
  · have g3 : (40 : Int) < pn := by omega
    go_enter Try.func3, Try.ntmps3
    try simp only [List.append_eq, List.cons_append, List.nil_append]
    go_wp2_with fail
    refine (HAW.out _).mono ?_
    rintro e0 w0 ⟨rfl, hx0⟩
    have k0 : Ext w w0 := Ext.trans ((by repeat (first | assumption | exact Ext.refl _ | refine Ext.alloc ?_ _ | refine Ext.drew ?_ | refine Ext.drewN ?_ _ | refine Ext.setCell ?_ (by first | (simp; done) | omega | (simp; omega)) _ | refine Ext.trans (by assumption) ?_))) hx0
    have t0 := hx0.cell (p := ⟨w.heap.size, 0, none⟩) (v := .slice tA tn tc) (by first | (simp; done) | (simp (maxDischargeDepth := 7) [go_sem]; done))
    clear HAW
    go_wp2
    go_ret
    exact ⟨rfl, k0⟩
  have g3 : ¬ (40 : Int) < pn := by omega
  by_cases h4 : 40 < mn
  · have g4 : (40 : Int) < mn := by omega
    go_enter Try.func3, Try.ntmps3
    try simp only [List.append_eq, List.cons_append, List.nil_append]
    go_wp2_with fail
    refine (HAW.out _).mono ?_
    rintro e0 w0 ⟨rfl, hx0⟩
    have k0 : Ext w w0 := Ext.trans ((by repeat (first | assumption | exact Ext.refl _ | refine Ext.alloc ?_ _ | refine Ext.drew ?_ | refine Ext.drewN ?_ _ | refine Ext.setCell ?_ (by first | (simp; done) | omega | (simp; omega)) _ | refine Ext.trans (by assumption) ?_))) hx0
    have t0 := hx0.cell (p := ⟨w.heap.size, 0, none⟩) (v := .slice tA tn tc) (by first | (simp; done) | (simp (maxDischargeDepth := 7) [go_sem]; done))
    clear HAW
    go_wp2
    go_ret
    exact ⟨rfl, k0⟩
  have g4 : ¬ (40 : Int) < mn := by omega
  obtain ⟨b1, hb1⟩ : ∃ b, (Weight.subV t lp).isSome = b := ⟨_, rfl⟩
  obtain ⟨r1, hr1⟩ : ∃ b, (Weight.subV t lp).getD [] = b := ⟨_, rfl⟩
  obtain ⟨b2, hb2⟩ : ∃ b, (Weight.passV t lw lp lm).isSome = b := ⟨_, rfl⟩
  obtain ⟨r2, hr2⟩ : ∃ b, (Weight.passV t lw lp lm).getD [] = b := ⟨_, rfl⟩
  obtain ⟨q, hq⟩ : ∃ q, decide (lw = lp) = q := ⟨_, rfl⟩
  have hlw := hw.len
  clear h1 h2 h3 h4 hlw
  go_enter Try.func3, Try.ntmps3
  try simp only [List.append_eq, List.cons_append, List.nil_append]
  go_wp2_with fail
  refine (HAW.out _).mono ?_
  rintro e0 w0 ⟨rfl, hx0⟩
  have k0 : Ext w w0 := Ext.trans ((by repeat (first | assumption | exact Ext.refl _ | refine Ext.alloc ?_ _ | refine Ext.drew ?_ | refine Ext.drewN ?_ _ | refine Ext.setCell ?_ (by first | (simp; done) | omega | (simp; omega)) _ | refine Ext.trans (by assumption) ?_))) hx0
  have t0 := hx0.cell (p := ⟨w.heap.size, 0, none⟩) (v := .slice tA tn tc) (by first | (simp; done) | (simp (maxDischargeDepth := 7) [go_sem]; done))
  clear HAW
  go_wp2_with fail
  refine (sub_is tA tn tc t pA pn pc lp b1 r1 hb1 hr1 _ (ht.ext k0) (hp.ext k0)).mono ?_
  rintro e w1 ⟨⟨v, rfl, ⟨A1, n1, c1, rfl, i1⟩⟩, hx1⟩
  have k1 : Ext w w1 := k0.trans hx1
  replace t0 := hx1.cell t0
  go_wp2_with fail
  refine (rsubs_is tA tn tc t pA pn pc lp b1 r1 hb1 hr1 _ (ht.ext k1) (hp.ext k1)).mono ?_
  rintro e w2 ⟨⟨v, rfl, ⟨A2, n2, c2, rfl, i2⟩⟩, hx2⟩
  have k2 : Ext w w2 := k1.trans hx2
  replace t0 := hx2.cell t0
  go_wp2_with fail
  refine (pass_is tA tn tc t wA wn wc lw pA pn pc lp mA mn mc lm b2 r2 hb2 hr2 _ (ht.ext k2) (hw.ext k2) (hp.ext k2) (hmi.ext k2)).mono ?_
  rintro e w3 ⟨⟨v, rfl, ⟨A3, n3, c3, rfl, i3⟩⟩, hx3⟩
  have k3 : Ext w w3 := k2.trans hx3
  replace t0 := hx3.cell t0
  go_wp2_with fail
  refine (rpass_is tA tn tc t wA wn wc lw pA pn pc lp mA mn mc lm b2 r2 hb2 hr2 _ (ht.ext k3) (hw.ext k3) (hp.ext k3) (hmi.ext k3)).mono ?_
  rintro e w4 ⟨⟨v, rfl, ⟨A4, n4, c4, rfl, i4⟩⟩, hx4⟩
  have k4 : Ext w w4 := k3.trans hx4
  replace t0 := hx4.cell t0
  go_wp2_with fail
  refine (rsame_is _ _ _ _ _ _ r1 r1 true (decide_eq_true rfl) _ (i1.ext (hx2.trans (hx3.trans hx4))) (i2.ext (hx3.trans hx4))).mono ?_
  rintro e w5 ⟨rfl, hx5⟩
  have k5 : Ext w w5 := k4.trans hx5
  go_wp2_with fail
  refine (rsame_is _ _ _ _ _ _ r2 r2 true (decide_eq_true rfl) _ (i3.ext (hx4.trans hx5)) (i4.ext hx5)).mono ?_
  rintro e w6 ⟨rfl, hx6⟩
  have k6 : Ext w w6 := k5.trans hx6
  go_wp2_with fail
  refine (rsame_is _ _ _ _ _ _ lw lp q hq _ (hw.ext k6) (hp.ext k6)).mono ?_
  rintro e w7 ⟨rfl, hx7⟩
  have k7 : Ext w w7 := k6.trans hx7
  go_wp2_with fail
  refine (wsame_is _ _ _ _ _ _ lw lp q hq _ (hw.ext k7) (hp.ext k7)).mono ?_
  rintro e w8 ⟨rfl, hx8⟩
  have k8 : Ext w w8 := k7.trans hx8
  go_wp2
  go_ret
  exact ⟨rfl, k8⟩
set_option maxRecDepth 100000 in
theorem WeightTells_lifted (os : Os) (started : os.Started) (H : Type) (enc : TypeId × Value → H) :
    ReturnsInHanded {} Try.checked os 3 .any (Rows.weightTellsSpec.pre6 enc Try.prog Try.f3 Rows.weightTellsRow.domain false) (Rows.weightTellsSpec.post enc Try.prog Try.f3 false true false false) := by
  refine returnsInHanded_of_change_sized (C := Try.checked) own started (by kernel_rfl) Try.func3
    (ChangeSpec.witness6 (enc := enc) (C := Try.checked) false ⟨#[], #[.agg #[.slice none 0 0], .slice none 0 0, .slice none 0 0, .slice none 0 0], []⟩ 8 (by kernel_rfl) (by kernel_rfl) (by kernel_rfl) (by kernel_rfl)) ?_
  intro W base args ds gs before hval0 hW _hcnd hsz0 _
  have hval : ∀ (j : Nat) t v, Try.f3.params[j]? = some t → args[j]? = some v → Value.okWide Try.prog W .any base t v := hval0
  have hsz : (DataW.weightsEach Try.prog (Try.f3.params.toList ++ Rows.weightTellsSpec.plain.varTypes Try.prog) (ds ++ gs)).all (· ≤ reachBytes) = true := hsz0
  have hW' := hW
  obtain ⟨p, q, hA0, hV, rfl, hfz, hnd⟩ := hW
  have hA : DataW.TrodAll enc Try.prog W 0 (fun _ => true) true Try.f3.params.toList args.toList ds p := hA0
  rw [Try.params3] at hA hval hsz
  obtain ⟨v0, vs0, d0, ds0, p0, q0, hargs, rfl, rfl, h0, r0⟩ := trodAll_cons hA
  obtain ⟨v1, vs1, d1, ds1, p1, q1, rfl, rfl, rfl, h1, r1⟩ := trodAll_cons r0
  obtain ⟨v2, vs2, d2, ds2, p2, q2, rfl, rfl, rfl, h2, r2⟩ := trodAll_cons r1
  obtain ⟨v3, vs3, d3, ds3, p3, q3, rfl, rfl, rfl, h3, r3⟩ := trodAll_cons r2
  obtain ⟨rfl, rfl, rfl⟩ := trodAll_nil r3
  obtain rfl : args = #[v0, v1, v2, v3] := by cases args; simp_all
  obtain ⟨rfl, rfl⟩ := trodVars_none hV
  have h0k := h0
  have h1k := h1
  have h2k := h2
  have h3k := h3
  have hlt0 : ∀ x ∈ p0, x.block < W.heap.size := fun x hx => by have := hW'.lt x (by simp [hx]); simpa using this
  have hlt1 : ∀ x ∈ p1, x.block < W.heap.size := fun x hx => by have := hW'.lt x (by simp [hx]); simpa using this
  have hlt2 : ∀ x ∈ p2, x.block < W.heap.size := fun x hx => by have := hW'.lt x (by simp [hx]); simpa using this
  have hlt3 : ∀ x ∈ p3, x.block < W.heap.size := fun x hx => by have := hW'.lt x (by simp [hx]); simpa using this
  obtain ⟨tA, tn, tc, t, rfl, ht⟩ := open_tree (hval 0 24 v0 rfl rfl) h0 hsz (j := 0) rfl rfl
  obtain ⟨w, wA, wn, wc, rfl, hw⟩ := open_Ints Try.underlying25 Try.underlying33 (by kernel_rfl) (by kernel_rfl) (hval 1 25 v1 rfl rfl) h1 hsz (j := 1) rfl rfl
  obtain ⟨plus, plusA, plusn, plusc, rfl, hplus⟩ := open_Ints Try.underlying25 Try.underlying33 (by kernel_rfl) (by kernel_rfl) (hval 2 25 v2 rfl rfl) h2 hsz (j := 2) rfl rfl
  obtain ⟨minus, minusA, minusn, minusc, rfl, hminus⟩ := open_Ints Try.underlying25 Try.underlying33 (by kernel_rfl) (by kernel_rfl) (hval 3 25 v3 rfl rfl) h3 hsz (j := 3) rfl rfl
  clear hA0 hval0
  simp only [List.append_nil] at hW'
  refine (WeightTells_walk tA tn tc t ht wA wn wc w hw plusA plusn plusc plus hplus minusA minusn minusc minus hminus (w := W)).mono fun e W' ⟨he, hg⟩ => ?_
  subst he
  exact ⟨_, rfl, post_law (pa := p0 ++ (p1 ++ (p2 ++ (p3 ++ [])))) (pv := []) hW' (fun _ _ _ => (trodAll_cons_mk (shut_bool Try.underlying4 _) trodAll_mk0))
    (trodAll_cons_mk (Below.trod laidOut (by kernel_rfl) (of_decide_eq_true (by kernel_rfl)) h0k hg.out hlt0) (trodAll_cons_mk (Below.trod laidOut (by kernel_rfl) (of_decide_eq_true (by kernel_rfl)) h1k hg.out hlt1) (trodAll_cons_mk (Below.trod laidOut (by kernel_rfl) (of_decide_eq_true (by kernel_rfl)) h2k hg.out hlt2) (trodAll_cons_mk (Below.trod laidOut (by kernel_rfl) (of_decide_eq_true (by kernel_rfl)) h3k hg.out hlt3) trodAll_mk0)))) rfl (by simp) hg⟩
theorem WeightTells_holds : Rows.WeightTellsSaid :=
  OpenClaim.holds_of_wide 3 Try.f3 rfl rfl rfl rfl rfl rfl rfl ⟨rfl, rfl, rfl, rfl, rfl⟩ rfl rfl rfl rfl rfl (by kernel_rfl) Try.func3 (by kernel_rfl)
    (of_decide_eq_true (by kernel_rfl)) (by unfold Func.isWrapper; first | (rw [if_pos (by decide +kernel)]; kernel_rfl) | (rw [if_neg (by decide +kernel)]; exact ⟨rfl, rfl⟩))
    (fun os started H enc _ => WeightTells_lifted os started H enc)
#print axioms WeightTells_holds
end Go.Proofs.Ytdeeplfbdoapmaa
