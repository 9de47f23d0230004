/- ViewLess: with less justified, or with something final that is above, no fewer lead on; for every tree, two numbers and two places. -/
import Derived.Test.YtophpemlaecglaaViewLaw
namespace Go.Proofs.Ytophpemlaecglaa
open Go.RowKit Go.WideShapes Go.ChangeShapes
set_option linter.unusedVariables false
set_option linter.unusedSimpArgs false
set_option linter.unusedSectionVars false






set_option maxHeartbeats 2000000 in
theorem ViewLess_walk {w : World} (tA : Option Addr) (tn tc : Nat) (t : List Node) (ht : NL w tA tn tc t) (j : Nat) (hj : j < 18446744073709551616) (l : Nat) (hl : l < 18446744073709551616) (f : Int) (f1 : -9223372036854775808 ≤ f) (f2 : f ≤ 9223372036854775807) (a : Int) (a1 : -9223372036854775808 ≤ a) (a2 : a ≤ 9223372036854775807) :
    Calls Try.prog 5 #[.agg #[.slice tA tn tc], .int .u64 j, .int .u64 l, .int .i64 f, .int .i64 a] w fun e' w' => e' = .returned (.bool true) ∧ Ext w w' := by
  have hlen := ht.len
  have hroom := ht.row.room
  have HAW := Lib.hid (fun W => awake_any W)
  have HV := Lib.hid (fun W (k : Ext w W) => ht.ext k)
  have HM := Lib.hid (fun b (hb : Tree.mayV t = b) W (k : Ext w W) => treeMay_is tA tn tc t b hb W (ht.ext k))
  have wf := wf_i64 f1 f2
  have wa := wf_i64 a1 a2
  have HA := Lib.hid (fun b (hb : Tree.aboveV t a f = b) W (kx : Ext w W) => above_is tA tn tc t a f wa wf b hb W (ht.ext kx))
  cases hm : Tree.mayV t with
  | false =>
    clear HA
    go_enter Try.func5, Try.ntmps5
    try simp only [List.append_eq, List.cons_append, List.nil_append]
    go_wp2_with fail
    refine (HAW.out _).mono ?_
    rintro e0 w0 ⟨rfl, hx0⟩
    have k0 : Ext w w0 := Ext.trans ((by repeat (first | assumption | exact Ext.refl _ | refine Ext.alloc ?_ _ | refine Ext.drew ?_ | refine Ext.drewN ?_ _ | refine Ext.setCell ?_ (by first | (simp; done) | omega | (simp; omega)) _ | refine Ext.trans (by assumption) ?_))) hx0
    have t0 := hx0.cell (p := ⟨w.heap.size, 0, none⟩) (v := .slice tA tn tc) (by first | (simp; done) | (simp (maxDischargeDepth := 7) [go_sem]; done))
    go_wp2_with fail
    refine (HM.out false hm _ k0).mono ?_
    rintro e1 w1 ⟨rfl, hx1⟩
    have k1 : Ext w w1 := k0.trans hx1
    replace t0 := hx1.cell t0
    go_wp2
    go_ret
    exact ⟨rfl, k1⟩
  | true =>
    by_cases hlj : j < l
    · have g0 : (j : Int) < l := by omega
      have g1 : decide (j < l) = true := decide_eq_true hlj
      clear HA
      go_enter Try.func5, Try.ntmps5
      try simp only [List.append_eq, List.cons_append, List.nil_append]
      go_wp2_with fail
      refine (HAW.out _).mono ?_
      rintro e0 w0 ⟨rfl, hx0⟩
      have k0 : Ext w w0 := Ext.trans ((by repeat (first | assumption | exact Ext.refl _ | refine Ext.alloc ?_ _ | refine Ext.drew ?_ | refine Ext.drewN ?_ _ | refine Ext.setCell ?_ (by first | (simp; done) | omega | (simp; omega)) _ | refine Ext.trans (by assumption) ?_))) hx0
      have t0 := hx0.cell (p := ⟨w.heap.size, 0, none⟩) (v := .slice tA tn tc) (by first | (simp; done) | (simp (maxDischargeDepth := 7) [go_sem]; done))
      go_wp2_with fail
      refine (HM.out true hm _ k0).mono ?_
      rintro e1 w1 ⟨rfl, hx1⟩
      have k1 : Ext w w1 := k0.trans hx1
      replace t0 := hx1.cell t0
      go_wp2
      go_ret
      exact ⟨rfl, k1⟩
    · have g0 : decide ((j : Int) < l) = false := decide_eq_false (by omega)
      have g1 : decide (j < l) = false := decide_eq_false hlj
      cases hb : Tree.aboveV t a f with
      | false =>
        replace HA := Lib.hid (fun W (kx : Ext w W) => HA.out false hb W kx)
        go_enter Try.func5, Try.ntmps5
        try simp only [List.append_eq, List.cons_append, List.nil_append]
        go_wp2_with fail
        refine (HAW.out _).mono ?_
        rintro e0 w0 ⟨rfl, hx0⟩
        have k0 : Ext w w0 := Ext.trans ((by repeat (first | assumption | exact Ext.refl _ | refine Ext.alloc ?_ _ | refine Ext.drew ?_ | refine Ext.drewN ?_ _ | refine Ext.setCell ?_ (by first | (simp; done) | omega | (simp; omega)) _ | refine Ext.trans (by assumption) ?_))) hx0
        have t0 := hx0.cell (p := ⟨w.heap.size, 0, none⟩) (v := .slice tA tn tc) (by first | (simp; done) | (simp (maxDischargeDepth := 7) [go_sem]; done))
        go_wp2_with fail
        refine (HM.out true hm _ k0).mono ?_
        rintro e1 w1 ⟨rfl, hx1⟩
        have k1 : Ext w w1 := k0.trans hx1
        replace t0 := hx1.cell t0
        go_wp2_with fail
        refine (HA.out _ k1).mono ?_
        rintro e2 w2 ⟨rfl, hx2⟩
        go_wp2
        go_ret
        exact ⟨rfl, k1.trans hx2⟩
      | true =>
        replace HA := Lib.hid (fun W (kx : Ext w W) => HA.out true hb W kx)
        have HL := Lib.hid (fun j f (hj : j < 18446744073709551616) (wf : (Lit.int .i64 f).wf = true) W (kx : Ext w W) => vleads_may tA tn tc t hm j hj f wf W (ht.ext kx))
        have HB := Lib.hid (fun i (h : View.leadB t j f i = true) => View.lead_less hm (k := l) (by omega) h)
        have HC := Lib.hid (fun i (h : View.leadB t j f i = true) => View.lead_above hm hb h)
        generalize View.leadB t = ld at *
        go_enter Try.func5, Try.ntmps5
        try simp only [List.append_eq, List.cons_append, List.nil_append]
        go_wp2_with fail
        refine (HAW.out _).mono ?_
        rintro e0 w0 ⟨rfl, hx0⟩
        have k0 : Ext w w0 := Ext.trans ((by repeat (first | assumption | exact Ext.refl _ | refine Ext.alloc ?_ _ | refine Ext.drew ?_ | refine Ext.drewN ?_ _ | refine Ext.setCell ?_ (by first | (simp; done) | omega | (simp; omega)) _ | refine Ext.trans (by assumption) ?_))) hx0
        have t0 := hx0.cell (p := ⟨w.heap.size, 0, none⟩) (v := .slice tA tn tc) (by first | (simp; done) | (simp (maxDischargeDepth := 7) [go_sem]; done))
        go_wp2_with fail
        refine (HM.out true hm _ k0).mono ?_
        rintro e1 w1 ⟨rfl, hx1⟩
        have k1 : Ext w w1 := k0.trans hx1
        replace t0 := hx1.cell t0
        clear HM hm HAW HV ht hb
        go_wp2_with fail
        refine (HA.out _ k1).mono ?_
        rintro e2 w2 ⟨rfl, hx2⟩
        have k2 := k1.trans hx2
        replace t0 := hx2.cell t0
        clear HA
        go_wp2_with fail
        refine (HL.out j f hj wf _ k2).mono ?_
        rintro e3 w3 ⟨⟨B1, d1, rfl, h1⟩, hx3⟩
        have k3 := k2.trans hx3
        replace t0 := hx3.cell t0
        go_wp2_with fail
        refine (HL.out l f hl wf _ k3).mono ?_
        rintro e4 w4 ⟨⟨B2, d2, rfl, h2⟩, hx4⟩
        have k4 := k3.trans hx4
        replace t0 := hx4.cell t0
        go_wp2_with fail
        refine (HL.out j a hj wa _ k4).mono ?_
        rintro e5 w5 ⟨⟨B3, d3, rfl, h3⟩, hx5⟩
        have k5 := k4.trans hx5
        replace t0 := hx5.cell t0
        have H1 := Lib.hid (fun W (kx : Ext w5 W) => h1.ext (hx4.trans (hx5.trans kx)))
        have H2 := Lib.hid (fun W (kx : Ext w5 W) => h2.ext (hx5.trans kx))
        have H3 := Lib.hid (fun W (kx : Ext w5 W) => h3.ext kx)
        clear h1 h2 h3 hx1 hx2 hx3 hx4 hx5 k2 k3 k4
        go_wp2
        go_loopw [15] (fun k' wr => ∃ k : Nat, k ≤ tn ∧ k' = .int .i64 k ∧ Ext w5 wr) (fun k' _ => tn - (intOf k').toNat)
        case atStart => exact ⟨0, Nat.zero_le _, rfl, Ext.refl _⟩
        case round =>
          obtain ⟨k, hk, rfl, hxr⟩ := hrel
          have kk := k5.trans hxr
          by_cases hlt : k < tn
          · have gk : (k : Int) < tn := by omega
            obtain ⟨b1, o1, rfl, c1⟩ := H1.out _ hxr (by omega)
            obtain ⟨b2, o2, rfl, c2⟩ := H2.out _ hxr (by omega)
            obtain ⟨b3, o3, rfl, c3⟩ := H3.out _ hxr (by omega)
            have v1 := c1 k hlt
            have v2 := c2 k hlt
            have v3 := c3 k hlt
            have g2 := HB.out k
            have g3 := HC.out k
            clear c1 c2 c3
            cases hq : ld j f k with
            | true =>
              rw [hq] at v1
              rw [g2 hq] at v2
              rw [g3 hq] at v3
              clear g2 g3 hq
              go_wp2
              go_roundw
              case rel => exact ⟨k + 1, by omega, by go_num, by assumption⟩
              case measure => simp [intOf]; omega
            | false =>
              rw [hq] at v1
              clear g2 g3 hq v2 v3
              go_wp2
              go_roundw
              case rel => exact ⟨k + 1, by omega, by go_num, by assumption⟩
              case measure => simp [intOf]; omega
          · have gk : ¬ (k : Int) < tn := by omega
            go_wp2
            go_ret
            exact ⟨rfl, kk⟩
set_option maxRecDepth 100000 in
theorem ViewLess_lifted (os : Os) (started : os.Started) (H : Type) (enc : TypeId × Value → H) :
    ReturnsInHanded {} Try.checked os 5 .any (Rows.viewLessSpec.pre6 enc Try.prog Try.f5 Rows.viewLessRow.domain false) (Rows.viewLessSpec.post enc Try.prog Try.f5 false true false false) := by
  refine returnsInHanded_of_change_sized (C := Try.checked) own started (by kernel_rfl) Try.func5
    (ChangeSpec.witness6 (enc := enc) (C := Try.checked) false ⟨#[], #[.agg #[.slice none 0 0], .int .u64 0, .int .u64 0, .int .i64 0, .int .i64 0], []⟩ 8 (by kernel_rfl) (by kernel_rfl) (by kernel_rfl) (by kernel_rfl)) ?_
  intro W base args ds gs before hval0 hW _hcnd hsz0 _
  have hval : ∀ (j : Nat) t v, Try.f5.params[j]? = some t → args[j]? = some v → Value.okWide Try.prog W .any base t v := hval0
  have hsz : (DataW.weightsEach Try.prog (Try.f5.params.toList ++ Rows.viewLessSpec.plain.varTypes Try.prog) (ds ++ gs)).all (· ≤ reachBytes) = true := hsz0
  have hW' := hW
  obtain ⟨p, q, hA0, hV, rfl, hfz, hnd⟩ := hW
  have hA : DataW.TrodAll enc Try.prog W 0 (fun _ => true) true Try.f5.params.toList args.toList ds p := hA0
  rw [Try.params5] at hA hval hsz
  obtain ⟨v0, vs0, d0, ds0, p0, q0, hargs, rfl, rfl, h0, r0⟩ := trodAll_cons hA
  obtain ⟨v1, vs1, d1, ds1, p1, q1, rfl, rfl, rfl, h1, r1⟩ := trodAll_cons r0
  obtain ⟨v2, vs2, d2, ds2, p2, q2, rfl, rfl, rfl, h2, r2⟩ := trodAll_cons r1
  obtain ⟨v3, vs3, d3, ds3, p3, q3, rfl, rfl, rfl, h3, r3⟩ := trodAll_cons r2
  obtain ⟨v4, vs4, d4, ds4, p4, q4, rfl, rfl, rfl, h4, r4⟩ := trodAll_cons r3
  obtain ⟨rfl, rfl, rfl⟩ := trodAll_nil r4
  obtain rfl : args = #[v0, v1, v2, v3, v4] := by cases args; simp_all
  obtain ⟨rfl, rfl⟩ := trodVars_none hV
  have h0k := h0
  have h1k := h1
  have h2k := h2
  have h3k := h3
  have h4k := h4
  have hlt0 : ∀ x ∈ p0, x.block < W.heap.size := fun x hx => by have := hW'.lt x (by simp [hx]); simpa using this
  have hlt1 : ∀ x ∈ p1, x.block < W.heap.size := fun x hx => by have := hW'.lt x (by simp [hx]); simpa using this
  have hlt2 : ∀ x ∈ p2, x.block < W.heap.size := fun x hx => by have := hW'.lt x (by simp [hx]); simpa using this
  have hlt3 : ∀ x ∈ p3, x.block < W.heap.size := fun x hx => by have := hW'.lt x (by simp [hx]); simpa using this
  have hlt4 : ∀ x ∈ p4, x.block < W.heap.size := fun x hx => by have := hW'.lt x (by simp [hx]); simpa using this
  obtain ⟨tA, tn, tc, t, rfl, ht⟩ := open_tree (hval 0 24 v0 rfl rfl) h0 hsz (j := 0) rfl rfl
  obtain ⟨j, rfl, hj⟩ := open_U64 Try.underlying25 (hval 1 25 v1 rfl rfl) h1
  obtain ⟨l, rfl, hl⟩ := open_U64 Try.underlying25 (hval 2 25 v2 rfl rfl) h2
  obtain ⟨f, rfl, hf1, hf2⟩ := open_I64 Try.underlying3 (hval 3 3 v3 rfl rfl) h3
  obtain ⟨a, rfl, ha1, ha2⟩ := open_I64 Try.underlying3 (hval 4 3 v4 rfl rfl) h4
  clear hA0 hval0
  simp only [List.append_nil] at hW'
  refine (ViewLess_walk tA tn tc t ht j hj l hl f hf1 hf2 a ha1 ha2 (w := W)).mono fun e W' ⟨he, hg⟩ => ?_
  subst he
  exact ⟨_, rfl, post_law (pa := p0 ++ (p1 ++ (p2 ++ (p3 ++ (p4 ++ []))))) (pv := []) hW' (fun _ _ _ => (trodAll_cons_mk (shut_bool Try.underlying4 _) trodAll_mk0))
    (trodAll_cons_mk (Below.trod laidOut (by kernel_rfl) (of_decide_eq_true (by kernel_rfl)) h0k hg.out hlt0) (trodAll_cons_mk (Below.trod laidOut (by kernel_rfl) (of_decide_eq_true (by kernel_rfl)) h1k hg.out hlt1) (trodAll_cons_mk (Below.trod laidOut (by kernel_rfl) (of_decide_eq_true (by kernel_rfl)) h2k hg.out hlt2) (trodAll_cons_mk (Below.trod laidOut (by kernel_rfl) (of_decide_eq_true (by kernel_rfl)) h3k hg.out hlt3) (trodAll_cons_mk (Below.trod laidOut (by kernel_rfl) (of_decide_eq_true (by kernel_rfl)) h4k hg.out hlt4) trodAll_mk0))))) rfl (by simp) hg⟩
theorem ViewLess_holds : Rows.ViewLessSaid :=
  OpenClaim.holds_of_wide 5 Try.f5 rfl rfl rfl rfl rfl rfl rfl ⟨rfl, rfl, rfl, rfl, rfl⟩ rfl rfl rfl rfl rfl (by kernel_rfl) Try.func5 (by kernel_rfl)
    (of_decide_eq_true (by kernel_rfl)) (by unfold Func.isWrapper; first | (rw [if_pos (by decide +kernel)]; kernel_rfl) | (rw [if_neg (by decide +kernel)]; exact ⟨rfl, rfl⟩))
    (fun os started H enc _ => ViewLess_lifted os started H enc)
#print axioms ViewLess_holds
end Go.Proofs.Ytophpemlaecglaa
