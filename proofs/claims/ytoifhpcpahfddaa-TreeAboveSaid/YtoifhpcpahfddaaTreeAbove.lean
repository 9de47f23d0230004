/- TreeAbove: what is above what is above is above; each is above itself; of two that are above one another they are one; the first one is above all; for every tree and any three places. -/
import Derived.Test.YtoifhpcpahfddaaTreeAwake
namespace Go.Proofs.Ytoifhpcpahfddaa
open Go.RowKit Go.WideShapes Go.ChangeShapes
set_option linter.unusedVariables false
set_option linter.unusedSimpArgs false






set_option maxHeartbeats 4000000 in
theorem TreeAbove_walk {w : World} (tA : Option Addr) (tn tc : Nat) (t : List Node) (ht : NL w tA tn tc t) (a : Int) (a1 : -9223372036854775808 ≤ a) (a2 : a ≤ 9223372036854775807) (b : Int) (b1 : -9223372036854775808 ≤ b) (b2 : b ≤ 9223372036854775807) (c : Int) (c1 : -9223372036854775808 ≤ c) (c2 : c ≤ 9223372036854775807) :
    Calls Try.prog 3 #[.agg #[.slice tA tn tc], .int .i64 a, .int .i64 b, .int .i64 c] w fun e' w' => e' = .returned (.bool true) ∧ Ext w w' := by
  have hlen := ht.len
  have hroom := ht.row.room
  have HAW := Lib.hid (fun W => awake_any W)
  have HV := Lib.hid (fun W (k : Ext w W) => ht.ext k)
  have HM := Lib.hid (fun b (hb : Tree.mayV t = b) W (k : Ext w W) => treeMay_is tA tn tc t b hb W (ht.ext k))
  cases hm : Tree.mayV t with
  | false =>
    go_enter Try.func3, Try.ntmps3
    try simp only [List.append_eq, List.cons_append, List.nil_append]
    go_wp2_with fail
    refine (HAW.out _).mono ?_
    rintro e0 w0 ⟨rfl, hx0⟩
    have k0 : Ext w w0 := Ext.trans ((by repeat (first | assumption | exact Ext.refl _ | refine Ext.alloc ?_ _ | refine Ext.drew ?_ | refine Ext.drewN ?_ _ | refine Ext.setCell ?_ (by first | (simp; done) | omega | (simp; omega)) _ | refine Ext.trans (by assumption) ?_))) hx0
    have t0 := hx0.cell (p := ⟨w.heap.size, 0, none⟩) (v := .slice tA tn tc) (by first | (simp; done) | (simp (maxDischargeDepth := 7) [go_sem]; done))
    go_wp2_with fail
    refine (HM.out false hm _ k0).mono ?_
    rintro e1 w1 ⟨rfl, hx1⟩
    have k1 : Ext w w1 := k0.trans hx1
    replace t0 := hx1.cell t0
    go_wp2
    go_ret
    exact ⟨rfl, k1⟩
  | true =>
    by_cases hok : 0 ≤ a ∧ 0 ≤ b ∧ 0 ≤ c ∧ a < tn ∧ b < tn ∧ c < tn
    · obtain ⟨p1, p2, p3, p4, p5, p6⟩ := hok
      have HA := Lib.hid (fun i k b (hi : (Lit.int .i64 i).wf = true) (hk : (Lit.int .i64 k).wf = true) (hb : Tree.aboveV t i k = b) W (kx : Ext w W) => above_is tA tn tc t i k hi hk b hb W (ht.ext kx))
      have wa := wf_i64 a1 a2
      have wb := wf_i64 b1 b2
      have wc := wf_i64 c1 c2
      have w0' : (Lit.int .i64 0).wf = true := by decide
      obtain ⟨a, rfl⟩ := Int.eq_ofNat_of_zero_le (show 0 ≤ a by omega)
      obtain ⟨b, rfl⟩ := Int.eq_ofNat_of_zero_le (show 0 ≤ b by omega)
      obtain ⟨c, rfl⟩ := Int.eq_ofNat_of_zero_le (show 0 ≤ c by omega)
      have la : a < t.length := by omega
      have lb : b < t.length := by omega
      have lc : c < t.length := by omega
      have z0 : Tree.aboveV t 0 a = true := (Tree.above_iff hm (i := 0) (by omega) la).2 (Tree.zero_mem t a)
      have aa : Tree.aboveV t a a = true := (Tree.above_iff hm la la).2 (Tree.mem_self t a)
      have X1 : Tree.aboveV t a b = true → Tree.aboveV t b c = true → Tree.aboveV t a c = true := fun h g => (Tree.above_iff hm la lc).2 (Tree.mem_trans ((Tree.above_iff hm la lb).1 h) ((Tree.above_iff hm lb lc).1 g))
      have X2 : Tree.aboveV t a b = true → Tree.aboveV t b a = true → a = b := fun h g => Tree.mem_anti ((Tree.above_iff hm la lb).1 h) ((Tree.above_iff hm lb la).1 g)
      have X3 : Tree.aboveV t a b = true → Tree.aboveV t c b = true → Tree.aboveV t a c = false → Tree.aboveV t c a = true := fun h g k => by
        have h := (Tree.above_iff hm la lb).1 h
        have g := (Tree.above_iff hm lc lb).1 g
        rcases Nat.le_total a c with hle | hle
        · rw [(Tree.above_iff hm la lc).2 (Tree.mem_chain h g hle)] at k; cases k
        · exact (Tree.above_iff hm lc la).2 (Tree.mem_chain g h hle)
      have r1 : decide ((a : Int) < 0) = false := decide_eq_false (by omega)
      have r2 : decide ((b : Int) < 0) = false := decide_eq_false (by omega)
      have r3 : decide ((c : Int) < 0) = false := decide_eq_false (by omega)
      have q1 : decide (tn ≤ a) = false := decide_eq_false (by omega)
      have q2 : decide (tn ≤ b) = false := decide_eq_false (by omega)
      have q3 : decide (tn ≤ c) = false := decide_eq_false (by omega)
      have Y1 := Lib.hid X1
      have Y2 := Lib.hid X2
      have Y3 := Lib.hid X3
      clear HV X1 X2 X3
      go_enter Try.func3, Try.ntmps3
      try simp only [List.append_eq, List.cons_append, List.nil_append]
      go_wp2_with fail
      refine (HAW.out _).mono ?_
      rintro e0 w0 ⟨rfl, hx0⟩
      have k0 : Ext w w0 := Ext.trans ((by repeat (first | assumption | exact Ext.refl _ | refine Ext.alloc ?_ _ | refine Ext.drew ?_ | refine Ext.drewN ?_ _ | refine Ext.setCell ?_ (by first | (simp; done) | omega | (simp; omega)) _ | refine Ext.trans (by assumption) ?_))) hx0
      have t0 := hx0.cell (p := ⟨w.heap.size, 0, none⟩) (v := .slice tA tn tc) (by first | (simp; done) | (simp (maxDischargeDepth := 7) [go_sem]; done))
      go_wp2_with fail
      refine (HM.out true hm _ k0).mono ?_
      rintro e1 w1 ⟨rfl, hx1⟩
      have k1 : Ext w w1 := k0.trans hx1
      replace t0 := hx1.cell t0
      clear HAW HM p1 p2 p3 p4 p5 p6
      cases x : Tree.aboveV t a b with
      | false =>
        go_wp2_with fail
        refine (HA.out a b false (by assumption) (by assumption) (by assumption) _ (by assumption)).mono ?_
        rintro e w' ⟨rfl, hx⟩
        have kk := Ext.trans (by assumption) hx
        have tt := hx.cell (by assumption)
        go_wp2_with fail
        refine (HA.out 0 a true (by assumption) (by assumption) (by assumption) _ (by assumption)).mono ?_
        rintro e w' ⟨rfl, hx⟩
        have kk := Ext.trans (by assumption) hx
        have tt := hx.cell (by assumption)
        go_wp2_with fail
        refine (HA.out a a true (by assumption) (by assumption) (by assumption) _ (by assumption)).mono ?_
        rintro e w' ⟨rfl, hx⟩
        have kk := Ext.trans (by assumption) hx
        have tt := hx.cell (by assumption)
        go_wp2
        go_ret
        exact ⟨rfl, by assumption⟩
      | true =>
        go_wp2_with fail
        refine (HA.out a b true (by assumption) (by assumption) (by assumption) _ (by assumption)).mono ?_
        rintro e w' ⟨rfl, hx⟩
        have kk := Ext.trans (by assumption) hx
        have tt := hx.cell (by assumption)
        go_wp2_with fail
        refine (HA.out 0 a true (by assumption) (by assumption) (by assumption) _ (by assumption)).mono ?_
        rintro e w' ⟨rfl, hx⟩
        have kk := Ext.trans (by assumption) hx
        have tt := hx.cell (by assumption)
        go_wp2_with fail
        refine (HA.out a a true (by assumption) (by assumption) (by assumption) _ (by assumption)).mono ?_
        rintro e w' ⟨rfl, hx⟩
        have kk := Ext.trans (by assumption) hx
        have tt := hx.cell (by assumption)
        cases y : Tree.aboveV t b c with
        | false =>
          go_wp2_with fail
          refine (HA.out b c false (by assumption) (by assumption) (by assumption) _ (by assumption)).mono ?_
          rintro e w' ⟨rfl, hx⟩
          have kk := Ext.trans (by assumption) hx
          have tt := hx.cell (by assumption)
          cases z : Tree.aboveV t b a with
          | false =>
            go_wp2_with fail
            refine (HA.out b a false (by assumption) (by assumption) (by assumption) _ (by assumption)).mono ?_
            rintro e w' ⟨rfl, hx⟩
            have kk := Ext.trans (by assumption) hx
            have tt := hx.cell (by assumption)
            cases u : Tree.aboveV t c b with
            | false =>
              go_wp2_with fail
              refine (HA.out c b false (by assumption) (by assumption) (by assumption) _ (by assumption)).mono ?_
              rintro e w' ⟨rfl, hx⟩
              have kk := Ext.trans (by assumption) hx
              have tt := hx.cell (by assumption)
              go_wp2
              go_ret
              exact ⟨rfl, by assumption⟩
            | true =>
              go_wp2_with fail
              refine (HA.out c b true (by assumption) (by assumption) (by assumption) _ (by assumption)).mono ?_
              rintro e w' ⟨rfl, hx⟩
              have kk := Ext.trans (by assumption) hx
              have tt := hx.cell (by assumption)
              cases v : Tree.aboveV t a c with
              | false =>
                have ca := Y3.out x u v
                go_wp2_with fail
                refine (HA.out a c false (by assumption) (by assumption) (by assumption) _ (by assumption)).mono ?_
                rintro e w' ⟨rfl, hx⟩
                have kk := Ext.trans (by assumption) hx
                have tt := hx.cell (by assumption)
                go_wp2_with fail
                refine (HA.out c a true (by assumption) (by assumption) (by assumption) _ (by assumption)).mono ?_
                rintro e w' ⟨rfl, hx⟩
                have kk := Ext.trans (by assumption) hx
                have tt := hx.cell (by assumption)
                go_wp2
                go_ret
                exact ⟨rfl, by assumption⟩
              | true =>
                go_wp2_with fail
                refine (HA.out a c true (by assumption) (by assumption) (by assumption) _ (by assumption)).mono ?_
                rintro e w' ⟨rfl, hx⟩
                have kk := Ext.trans (by assumption) hx
                have tt := hx.cell (by assumption)
                go_wp2
                go_ret
                exact ⟨rfl, by assumption⟩
          | true =>
            have gab : ((a : Int) == b) = true := by have := Y2.out x z; simp; omega
            go_wp2_with fail
            refine (HA.out b a true (by assumption) (by assumption) (by assumption) _ (by assumption)).mono ?_
            rintro e w' ⟨rfl, hx⟩
            have kk := Ext.trans (by assumption) hx
            have tt := hx.cell (by assumption)
            cases u : Tree.aboveV t c b with
            | false =>
              go_wp2_with fail
              refine (HA.out c b false (by assumption) (by assumption) (by assumption) _ (by assumption)).mono ?_
              rintro e w' ⟨rfl, hx⟩
              have kk := Ext.trans (by assumption) hx
              have tt := hx.cell (by assumption)
              go_wp2
              go_ret
              exact ⟨rfl, by assumption⟩
            | true =>
              go_wp2_with fail
              refine (HA.out c b true (by assumption) (by assumption) (by assumption) _ (by assumption)).mono ?_
              rintro e w' ⟨rfl, hx⟩
              have kk := Ext.trans (by assumption) hx
              have tt := hx.cell (by assumption)
              cases v : Tree.aboveV t a c with
              | false =>
                have ca := Y3.out x u v
                go_wp2_with fail
                refine (HA.out a c false (by assumption) (by assumption) (by assumption) _ (by assumption)).mono ?_
                rintro e w' ⟨rfl, hx⟩
                have kk := Ext.trans (by assumption) hx
                have tt := hx.cell (by assumption)
                go_wp2_with fail
                refine (HA.out c a true (by assumption) (by assumption) (by assumption) _ (by assumption)).mono ?_
                rintro e w' ⟨rfl, hx⟩
                have kk := Ext.trans (by assumption) hx
                have tt := hx.cell (by assumption)
                go_wp2
                go_ret
                exact ⟨rfl, by assumption⟩
              | true =>
                go_wp2_with fail
                refine (HA.out a c true (by assumption) (by assumption) (by assumption) _ (by assumption)).mono ?_
                rintro e w' ⟨rfl, hx⟩
                have kk := Ext.trans (by assumption) hx
                have tt := hx.cell (by assumption)
                go_wp2
                go_ret
                exact ⟨rfl, by assumption⟩
        | true =>
          have ac := Y1.out x y
          go_wp2_with fail
          refine (HA.out b c true (by assumption) (by assumption) (by assumption) _ (by assumption)).mono ?_
          rintro e w' ⟨rfl, hx⟩
          have kk := Ext.trans (by assumption) hx
          have tt := hx.cell (by assumption)
          go_wp2_with fail
          refine (HA.out a c true (by assumption) (by assumption) (by assumption) _ (by assumption)).mono ?_
          rintro e w' ⟨rfl, hx⟩
          have kk := Ext.trans (by assumption) hx
          have tt := hx.cell (by assumption)
          cases z : Tree.aboveV t b a with
          | false =>
            go_wp2_with fail
            refine (HA.out b a false (by assumption) (by assumption) (by assumption) _ (by assumption)).mono ?_
            rintro e w' ⟨rfl, hx⟩
            have kk := Ext.trans (by assumption) hx
            have tt := hx.cell (by assumption)
            cases u : Tree.aboveV t c b with
            | false =>
              go_wp2_with fail
              refine (HA.out c b false (by assumption) (by assumption) (by assumption) _ (by assumption)).mono ?_
              rintro e w' ⟨rfl, hx⟩
              have kk := Ext.trans (by assumption) hx
              have tt := hx.cell (by assumption)
              go_wp2
              go_ret
              exact ⟨rfl, by assumption⟩
            | true =>
              go_wp2_with fail
              refine (HA.out c b true (by assumption) (by assumption) (by assumption) _ (by assumption)).mono ?_
              rintro e w' ⟨rfl, hx⟩
              have kk := Ext.trans (by assumption) hx
              have tt := hx.cell (by assumption)
              cases v : Tree.aboveV t a c with
              | false =>
                have ca := Y3.out x u v
                go_wp2_with fail
                refine (HA.out a c false (by assumption) (by assumption) (by assumption) _ (by assumption)).mono ?_
                rintro e w' ⟨rfl, hx⟩
                have kk := Ext.trans (by assumption) hx
                have tt := hx.cell (by assumption)
                go_wp2_with fail
                refine (HA.out c a true (by assumption) (by assumption) (by assumption) _ (by assumption)).mono ?_
                rintro e w' ⟨rfl, hx⟩
                have kk := Ext.trans (by assumption) hx
                have tt := hx.cell (by assumption)
                go_wp2
                go_ret
                exact ⟨rfl, by assumption⟩
              | true =>
                go_wp2_with fail
                refine (HA.out a c true (by assumption) (by assumption) (by assumption) _ (by assumption)).mono ?_
                rintro e w' ⟨rfl, hx⟩
                have kk := Ext.trans (by assumption) hx
                have tt := hx.cell (by assumption)
                go_wp2
                go_ret
                exact ⟨rfl, by assumption⟩
          | true =>
            have gab : ((a : Int) == b) = true := by have := Y2.out x z; simp; omega
            go_wp2_with fail
            refine (HA.out b a true (by assumption) (by assumption) (by assumption) _ (by assumption)).mono ?_
            rintro e w' ⟨rfl, hx⟩
            have kk := Ext.trans (by assumption) hx
            have tt := hx.cell (by assumption)
            cases u : Tree.aboveV t c b with
            | false =>
              go_wp2_with fail
              refine (HA.out c b false (by assumption) (by assumption) (by assumption) _ (by assumption)).mono ?_
              rintro e w' ⟨rfl, hx⟩
              have kk := Ext.trans (by assumption) hx
              have tt := hx.cell (by assumption)
              go_wp2
              go_ret
              exact ⟨rfl, by assumption⟩
            | true =>
              go_wp2_with fail
              refine (HA.out c b true (by assumption) (by assumption) (by assumption) _ (by assumption)).mono ?_
              rintro e w' ⟨rfl, hx⟩
              have kk := Ext.trans (by assumption) hx
              have tt := hx.cell (by assumption)
              cases v : Tree.aboveV t a c with
              | false =>
                have ca := Y3.out x u v
                go_wp2_with fail
                refine (HA.out a c false (by assumption) (by assumption) (by assumption) _ (by assumption)).mono ?_
                rintro e w' ⟨rfl, hx⟩
                have kk := Ext.trans (by assumption) hx
                have tt := hx.cell (by assumption)
                go_wp2_with fail
                refine (HA.out c a true (by assumption) (by assumption) (by assumption) _ (by assumption)).mono ?_
                rintro e w' ⟨rfl, hx⟩
                have kk := Ext.trans (by assumption) hx
                have tt := hx.cell (by assumption)
                go_wp2
                go_ret
                exact ⟨rfl, by assumption⟩
              | true =>
                go_wp2_with fail
                refine (HA.out a c true (by assumption) (by assumption) (by assumption) _ (by assumption)).mono ?_
                rintro e w' ⟨rfl, hx⟩
                have kk := Ext.trans (by assumption) hx
                have tt := hx.cell (by assumption)
                go_wp2
                go_ret
                exact ⟨rfl, by assumption⟩
    · go_enter Try.func3, Try.ntmps3
      try simp only [List.append_eq, List.cons_append, List.nil_append]
      go_wp2_with fail
      refine (HAW.out _).mono ?_
      rintro e0 w0 ⟨rfl, hx0⟩
      have k0 : Ext w w0 := Ext.trans ((by repeat (first | assumption | exact Ext.refl _ | refine Ext.alloc ?_ _ | refine Ext.drew ?_ | refine Ext.drewN ?_ _ | refine Ext.setCell ?_ (by first | (simp; done) | omega | (simp; omega)) _ | refine Ext.trans (by assumption) ?_))) hx0
      have t0 := hx0.cell (p := ⟨w.heap.size, 0, none⟩) (v := .slice tA tn tc) (by first | (simp; done) | (simp (maxDischargeDepth := 7) [go_sem]; done))
      go_wp2_with fail
      refine (HM.out true hm _ k0).mono ?_
      rintro e1 w1 ⟨rfl, hx1⟩
      have k1 : Ext w w1 := k0.trans hx1
      replace t0 := hx1.cell t0
      clear HAW HM HV
      go_wp2
      all_goals (go_ret; exact ⟨rfl, k1⟩)
set_option maxRecDepth 100000 in
theorem TreeAbove_lifted (os : Os) (started : os.Started) (H : Type) (enc : TypeId × Value → H) :
    ReturnsInHanded {} Try.checked os 3 .any (Rows.treeAboveSpec.pre6 enc Try.prog Try.f3 Rows.treeAboveRow.domain false) (Rows.treeAboveSpec.post enc Try.prog Try.f3 false true false false) := by
  refine returnsInHanded_of_change_sized (C := Try.checked) own started (by kernel_rfl) Try.func3
    (ChangeSpec.witness6 (enc := enc) (C := Try.checked) false ⟨#[], #[.agg #[.slice none 0 0], .int .i64 0, .int .i64 0, .int .i64 0], []⟩ 8 (by kernel_rfl) (by kernel_rfl) (by kernel_rfl) (by kernel_rfl)) ?_
  intro W base args ds gs before hval0 hW _hcnd hsz0 _
  have hval : ∀ (j : Nat) t v, Try.f3.params[j]? = some t → args[j]? = some v → Value.okWide Try.prog W .any base t v := hval0
  have hsz : (DataW.weightsEach Try.prog (Try.f3.params.toList ++ Rows.treeAboveSpec.plain.varTypes Try.prog) (ds ++ gs)).all (· ≤ reachBytes) = true := hsz0
  have hW' := hW
  obtain ⟨p, q, hA0, hV, rfl, hfz, hnd⟩ := hW
  have hA : DataW.TrodAll enc Try.prog W 0 (fun _ => true) true Try.f3.params.toList args.toList ds p := hA0
  rw [Try.params3] at hA hval hsz
  obtain ⟨v0, vs0, d0, ds0, p0, q0, hargs, rfl, rfl, h0, r0⟩ := trodAll_cons hA
  obtain ⟨v1, vs1, d1, ds1, p1, q1, rfl, rfl, rfl, h1, r1⟩ := trodAll_cons r0
  obtain ⟨v2, vs2, d2, ds2, p2, q2, rfl, rfl, rfl, h2, r2⟩ := trodAll_cons r1
  obtain ⟨v3, vs3, d3, ds3, p3, q3, rfl, rfl, rfl, h3, r3⟩ := trodAll_cons r2
  obtain ⟨rfl, rfl, rfl⟩ := trodAll_nil r3
  obtain rfl : args = #[v0, v1, v2, v3] := by cases args; simp_all
  obtain ⟨rfl, rfl⟩ := trodVars_none hV
  have h0k := h0
  have h1k := h1
  have h2k := h2
  have h3k := h3
  have hlt0 : ∀ x ∈ p0, x.block < W.heap.size := fun x hx => by have := hW'.lt x (by simp [hx]); simpa using this
  have hlt1 : ∀ x ∈ p1, x.block < W.heap.size := fun x hx => by have := hW'.lt x (by simp [hx]); simpa using this
  have hlt2 : ∀ x ∈ p2, x.block < W.heap.size := fun x hx => by have := hW'.lt x (by simp [hx]); simpa using this
  have hlt3 : ∀ x ∈ p3, x.block < W.heap.size := fun x hx => by have := hW'.lt x (by simp [hx]); simpa using this
  obtain ⟨tA, tn, tc, t, rfl, ht⟩ := open_tree (hval 0 24 v0 rfl rfl) h0 hsz (j := 0) rfl rfl
  obtain ⟨a, rfl, ha1, ha2⟩ := open_I64 Try.underlying3 (hval 1 3 v1 rfl rfl) h1
  obtain ⟨b, rfl, hb1, hb2⟩ := open_I64 Try.underlying3 (hval 2 3 v2 rfl rfl) h2
  obtain ⟨c, rfl, hc1, hc2⟩ := open_I64 Try.underlying3 (hval 3 3 v3 rfl rfl) h3
  clear hA0 hval0
  simp only [List.append_nil] at hW'
  refine (TreeAbove_walk tA tn tc t ht a ha1 ha2 b hb1 hb2 c hc1 hc2 (w := W)).mono fun e W' ⟨he, hg⟩ => ?_
  subst he
  exact ⟨_, rfl, post_law (pa := p0 ++ (p1 ++ (p2 ++ (p3 ++ [])))) (pv := []) hW' (fun _ _ _ => (trodAll_cons_mk (shut_bool Try.underlying4 _) trodAll_mk0))
    (trodAll_cons_mk (Below.trod laidOut (by kernel_rfl) (of_decide_eq_true (by kernel_rfl)) h0k hg.out hlt0) (trodAll_cons_mk (Below.trod laidOut (by kernel_rfl) (of_decide_eq_true (by kernel_rfl)) h1k hg.out hlt1) (trodAll_cons_mk (Below.trod laidOut (by kernel_rfl) (of_decide_eq_true (by kernel_rfl)) h2k hg.out hlt2) (trodAll_cons_mk (Below.trod laidOut (by kernel_rfl) (of_decide_eq_true (by kernel_rfl)) h3k hg.out hlt3) trodAll_mk0)))) rfl (by simp) hg⟩
theorem TreeAbove_holds : Rows.TreeAboveSaid :=
  OpenClaim.holds_of_wide 3 Try.f3 rfl rfl rfl rfl rfl rfl rfl ⟨rfl, rfl, rfl, rfl, rfl⟩ rfl rfl rfl rfl rfl (by kernel_rfl) Try.func3 (by kernel_rfl)
    (of_decide_eq_true (by kernel_rfl)) (by unfold Func.isWrapper; first | (rw [if_pos (by decide +kernel)]; kernel_rfl) | (rw [if_neg (by decide +kernel)]; exact ⟨rfl, rfl⟩))
    (fun os started H enc _ => TreeAbove_lifted os started H enc)
#print axioms TreeAbove_holds
end Go.Proofs.Ytoifhpcpahfddaa
