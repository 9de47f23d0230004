/- SkipParts: up by two numbers, one after the other, is up by both together; as far as a node is deep it is the first one, and further there is none; for every tree, place and two numbers. -/
import Derived.Test.YtomobdlbopbpeaaSkipLaw
namespace Go.Proofs.Ytomobdlbopbpeaa
open Go.RowKit Go.WideShapes Go.ChangeShapes Go.Sort
set_option linter.unusedVariables false
set_option linter.unusedSimpArgs false
set_option linter.unusedSectionVars false






set_option maxHeartbeats 2000000 in
theorem SkipParts_walk {w : World} (tA : Option Addr) (tn tc : Nat) (t : List Node) (ht : NL w tA tn tc t) (i : Int) (i1 : -9223372036854775808 ≤ i) (i2 : i ≤ 9223372036854775807) (a : Int) (a1 : -9223372036854775808 ≤ a) (a2 : a ≤ 9223372036854775807) (b : Int) (b1 : -9223372036854775808 ≤ b) (b2 : b ≤ 9223372036854775807) :
    Calls Try.prog 4 #[.agg #[.slice tA tn tc], .int .i64 i, .int .i64 a, .int .i64 b] w fun e' w' => e' = .returned (.bool true) ∧ Ext w w' := by
  have hlen := ht.len
  have hroom := ht.row.room
  have HAW := Lib.hid (fun W => awake_any W)
  have HV := Lib.hid (fun W (k : Ext w W) => ht.ext k)
  have HM := Lib.hid (fun b (hb : Tree.mayV t = b) W (k : Ext w W) => treeMay_is tA tn tc t b hb W (ht.ext k))
  cases hm : Tree.mayV t with
  | false =>
    go_enter Try.func4, Try.ntmps4
    try simp only [List.append_eq, List.cons_append, List.nil_append]
    go_wp2_with fail
    refine (HAW.out _).mono ?_
    rintro e0 w0 ⟨rfl, hx0⟩
    have k0 : Ext w w0 := Ext.trans ((by repeat (first | assumption | exact Ext.refl _ | refine Ext.alloc ?_ _ | refine Ext.drew ?_ | refine Ext.drewN ?_ _ | refine Ext.setCell ?_ (by first | (simp; done) | omega | (simp; omega)) _ | refine Ext.trans (by assumption) ?_))) hx0
    have t0 := hx0.cell (p := ⟨w.heap.size, 0, none⟩) (v := .slice tA tn tc) (by first | (simp; done) | (simp (maxDischargeDepth := 7) [go_sem]; done))
    go_wp2_with fail
    refine (HM.out false hm _ k0).mono ?_
    rintro e1 w1 ⟨rfl, hx1⟩
    have k1 : Ext w w1 := k0.trans hx1
    replace t0 := hx1.cell t0
    go_wp2
    go_ret
    exact ⟨rfl, k1⟩
  | true =>
    by_cases hok : (0 ≤ i ∧ i < tn) ∧ (0 ≤ a ∧ a ≤ 1000) ∧ 0 ≤ b ∧ b ≤ 1000
    · obtain ⟨⟨pi, qi⟩, ⟨pa, qa⟩, pb, qb⟩ := hok
      obtain ⟨i, rfl⟩ := Int.eq_ofNat_of_zero_le pi
      obtain ⟨a, rfl⟩ := Int.eq_ofNat_of_zero_le pa
      obtain ⟨b, rfl⟩ := Int.eq_ofNat_of_zero_le pb
      have li : i < t.length := by omega
      have hin : i < tn := by omega
      have h12 := Tree.len_le hm
      rw [hlen] at h12
      have wi := wf_i64 i1 i2
      have HUX := Lib.hid (fun i' m x (hx : Skip.upV t i' m = x) W (kx : Ext w W) => up_is tA tn tc t i' m x hx W (ht.ext kx))
      have hdi := Skip.deep_le t i
      have hac := Skip.anc_cases t i a
      have hl1 : Skip.upV t (i : Int) ((Skip.deepN t i : Nat) : Int) = 0 := by rw [Skip.upV_in hm li]; exact Skip.anc_last t i
      have hl2 : Skip.upV t (i : Int) (((Skip.deepN t i : Nat) : Int) + 1) = -1 := by
        have := Skip.upV_in hm li (n := Skip.deepN t i + 1)
        rw [Skip.anc_past] at this
        exact this
      have hab := fun p (h : (Tree.line t i)[a]? = some p) => Skip.anc_add h b
      have hua : Skip.upV t (i : Int) (a : Int) = Skip.anc t i a := Skip.upV_in hm li
      have huab : Skip.upV t (i : Int) ((a : Int) + b) = Skip.anc t i (a + b) := Skip.upV_in hm li (n := a + b)
      obtain ⟨D, hD⟩ : ∃ D, Skip.deepN t i = D := ⟨_, rfl⟩
      have HDI := Lib.hid (fun W (kx : Ext w W) => deep_is tA tn tc t i D (by rw [Skip.deepV_in hm li, hD]) W (ht.ext kx))
      rw [hD] at hdi hl1 hl2 hac
      have r1 : decide ((i : Int) < 0) = false := decide_eq_false (by omega)
      have r2 : decide ((a : Int) < 0) = false := decide_eq_false (by omega)
      have r3 : decide ((b : Int) < 0) = false := decide_eq_false (by omega)
      have r4 : decide ((1000 : Int) < a) = false := decide_eq_false (by omega)
      have r5 : decide ((1000 : Int) < b) = false := decide_eq_false (by omega)
      have r6 : decide (1000 < a) = false := decide_eq_false (by omega)
      have r7 : decide (1000 < b) = false := decide_eq_false (by omega)
      have s1 : decide (tn ≤ i) = false := decide_eq_false (by omega)
      have gd : (D : Int) ≤ i := by omega
      rcases hac with ⟨h1, h2, _⟩ | ⟨p, h1, h2, hg, hpi, _, hdp⟩
      · have ha := hua.trans h1
        have ga : decide ((a : Int) ≤ D) = false := decide_eq_false (by omega)
        have ga2 : decide (a ≤ D) = false := decide_eq_false (by omega)
        clear h1 hab hua huab hD h2
        go_enter Try.func4, Try.ntmps4
        try simp only [List.append_eq, List.cons_append, List.nil_append]
        go_wp2_with fail
        refine (HAW.out _).mono ?_
        rintro e0 w0 ⟨rfl, hx0⟩
        have k0 : Ext w w0 := Ext.trans ((by repeat (first | assumption | exact Ext.refl _ | refine Ext.alloc ?_ _ | refine Ext.drew ?_ | refine Ext.drewN ?_ _ | refine Ext.setCell ?_ (by first | (simp; done) | omega | (simp; omega)) _ | refine Ext.trans (by assumption) ?_))) hx0
        have t0 := hx0.cell (p := ⟨w.heap.size, 0, none⟩) (v := .slice tA tn tc) (by first | (simp; done) | (simp (maxDischargeDepth := 7) [go_sem]; done))
        go_wp2_with fail
        refine (HM.out true hm _ k0).mono ?_
        rintro e1 w1 ⟨rfl, hx1⟩
        have k1 : Ext w w1 := k0.trans hx1
        replace t0 := hx1.cell t0
        clear HAW HM hm ht HV
        go_wp2_with fail
        refine (HUX.out _ _ _ ha _ k1).mono ?_
        rintro e2 w2 ⟨rfl, hx2⟩
        have k2 := k1.trans hx2
        replace t0 := hx2.cell t0
        go_wp2_with fail
        refine (HDI.out _ k2).mono ?_
        rintro e3 w3 ⟨rfl, hx3⟩
        have k3 := k2.trans hx3
        replace t0 := hx3.cell t0
        go_wp2
        have z0 := fun p => cell_in t0 p
        refine wp_region_quiet_below (by kernel_rfl) (by kernel_rfl) ?_
        repeat (first | go_big_quiet_skip | (go_big_quiet_want; first | ((fail); (try simp only [Act.put, List.setIfInBounds_toArray, List.set_cons_zero, List.set_cons_succ]); go_big_quiet_on) | (go_big_quiet_op; first | go_big_quiet_on | go_big_quiet_call (fail))))
        refine wpQuiet_nil ?_
        intro _ hw'
        obtain ⟨pq, hw''⟩ := hw'
        subst hw''
        have k4 := k3.trans (ext_regrown w3 pq)
        replace t0 := cell_in t0 pq
        clear z0
        generalize grow (redrawn w3 pq.d) pq.os = w4 at *
        go_wp2_with fail
        refine (HUX.out _ _ _ hl1 _ k4).mono ?_
        rintro e5 w5 ⟨rfl, hx5⟩
        have k5 := k4.trans hx5
        replace t0 := hx5.cell t0
        go_wp2_with fail
        refine (HUX.out _ _ _ hl2 _ k5).mono ?_
        rintro e6 w6 ⟨rfl, hx6⟩
        have k6 := k5.trans hx6
        go_wp2
        go_ret
        exact ⟨rfl, k6⟩
      · have ha := hua.trans h1
        have hy := hab p hg
        have lp : p < t.length := by omega
        obtain ⟨y, hyy⟩ : ∃ y, Skip.anc t p b = y := ⟨_, rfl⟩
        have hu1 : Skip.upV t (p : Int) (b : Int) = y := by rw [Skip.upV_in hm lp, hyy]
        have hu2 : Skip.upV t (i : Int) ((a : Int) + b) = y := by rw [huab, hy, hyy]
        have wp : (Lit.int .i64 (p : Int)).wf = true := wf_i64 (by omega) (by omega)
        have HDP := Lib.hid (fun W (kx : Ext w W) => deep_is tA tn tc t p ((D : Int) - a) (by rw [Skip.deepV_in hm lp, hdp]; omega) W (ht.ext kx))
        have HAB := Lib.hid (fun W (kx : Ext w W) => above_is tA tn tc t p i wp wi true ((Tree.above_iff hm lp li).2 (List.mem_of_getElem? hg)) W (ht.ext kx))
        have ga : (a : Int) ≤ D := by omega
        have gy : (y != y) = false := by simp
        clear h1 hab hua huab hD h2 hy hyy hg hdp
        go_enter Try.func4, Try.ntmps4
        try simp only [List.append_eq, List.cons_append, List.nil_append]
        go_wp2_with fail
        refine (HAW.out _).mono ?_
        rintro e0 w0 ⟨rfl, hx0⟩
        have k0 : Ext w w0 := Ext.trans ((by repeat (first | assumption | exact Ext.refl _ | refine Ext.alloc ?_ _ | refine Ext.drew ?_ | refine Ext.drewN ?_ _ | refine Ext.setCell ?_ (by first | (simp; done) | omega | (simp; omega)) _ | refine Ext.trans (by assumption) ?_))) hx0
        have t0 := hx0.cell (p := ⟨w.heap.size, 0, none⟩) (v := .slice tA tn tc) (by first | (simp; done) | (simp (maxDischargeDepth := 7) [go_sem]; done))
        go_wp2_with fail
        refine (HM.out true hm _ k0).mono ?_
        rintro e1 w1 ⟨rfl, hx1⟩
        have k1 : Ext w w1 := k0.trans hx1
        replace t0 := hx1.cell t0
        clear HAW HM hm ht HV
        go_wp2_with fail
        refine (HUX.out _ _ _ ha _ k1).mono ?_
        rintro e2 w2 ⟨rfl, hx2⟩
        have k2 := k1.trans hx2
        replace t0 := hx2.cell t0
        go_wp2_with fail
        refine (HDI.out _ k2).mono ?_
        rintro e3 w3 ⟨rfl, hx3⟩
        have k3 := k2.trans hx3
        replace t0 := hx3.cell t0
        go_wp2
        have z0 := fun p => cell_in t0 p
        refine wp_region_quiet_below (by kernel_rfl) (by kernel_rfl) ?_
        repeat (first | go_big_quiet_skip | (go_big_quiet_want; first | ((fail); (try simp only [Act.put, List.setIfInBounds_toArray, List.set_cons_zero, List.set_cons_succ]); go_big_quiet_on) | (go_big_quiet_op; first | go_big_quiet_on | go_big_quiet_call (first | (go_at_call 13; exact regrown_ext (HUX.out _ _ _ (by assumption) _ (Ext.trans k3 (ext_regrown _ _)))) | (go_at_call 15; exact regrown_ext (HDP.out _ (Ext.trans k3 (ext_regrown _ _)))) | (go_at_call 22; exact regrown_ext (HAB.out _ (Ext.trans k3 (ext_regrown _ _))))))))
        refine wpQuiet_nil ?_
        intro _ hw'
        obtain ⟨pq, hw''⟩ := hw'
        subst hw''
        have k4 := k3.trans (ext_regrown w3 pq)
        replace t0 := cell_in t0 pq
        clear z0
        generalize grow (redrawn w3 pq.d) pq.os = w4 at *
        go_wp2_with fail
        refine (HUX.out _ _ _ hl1 _ k4).mono ?_
        rintro e5 w5 ⟨rfl, hx5⟩
        have k5 := k4.trans hx5
        replace t0 := hx5.cell t0
        go_wp2_with fail
        refine (HUX.out _ _ _ hl2 _ k5).mono ?_
        rintro e6 w6 ⟨rfl, hx6⟩
        have k6 := k5.trans hx6
        go_wp2
        go_ret
        exact ⟨rfl, k6⟩
    · go_enter Try.func4, Try.ntmps4
      try simp only [List.append_eq, List.cons_append, List.nil_append]
      go_wp2_with fail
      refine (HAW.out _).mono ?_
      rintro e0 w0 ⟨rfl, hx0⟩
      have k0 : Ext w w0 := Ext.trans ((by repeat (first | assumption | exact Ext.refl _ | refine Ext.alloc ?_ _ | refine Ext.drew ?_ | refine Ext.drewN ?_ _ | refine Ext.setCell ?_ (by first | (simp; done) | omega | (simp; omega)) _ | refine Ext.trans (by assumption) ?_))) hx0
      have t0 := hx0.cell (p := ⟨w.heap.size, 0, none⟩) (v := .slice tA tn tc) (by first | (simp; done) | (simp (maxDischargeDepth := 7) [go_sem]; done))
      go_wp2_with fail
      refine (HM.out true hm _ k0).mono ?_
      rintro e1 w1 ⟨rfl, hx1⟩
      have k1 : Ext w w1 := k0.trans hx1
      replace t0 := hx1.cell t0
      clear HAW HM HV
      go_wp2_with fail
      all_goals (first | (go_ret; exact ⟨rfl, k1⟩) | (exfalso; apply hok; refine ⟨⟨?_, ?_⟩, ⟨?_, ?_⟩, ?_, ?_⟩ <;> omega))
set_option maxRecDepth 100000 in
theorem SkipParts_lifted (os : Os) (started : os.Started) (H : Type) (enc : TypeId × Value → H) :
    ReturnsInHanded {} Try.checked os 4 .any (Rows.skipPartsSpec.pre6 enc Try.prog Try.f4 Rows.skipPartsRow.domain false) (Rows.skipPartsSpec.post enc Try.prog Try.f4 false true false false) := by
  refine returnsInHanded_of_change_sized (C := Try.checked) own started (by kernel_rfl) Try.func4
    (ChangeSpec.witness6 (enc := enc) (C := Try.checked) false ⟨#[], #[.agg #[.slice none 0 0], .int .i64 0, .int .i64 0, .int .i64 0], []⟩ 8 (by kernel_rfl) (by kernel_rfl) (by kernel_rfl) (by kernel_rfl)) ?_
  intro W base args ds gs before hval0 hW _hcnd hsz0 _
  have hval : ∀ (j : Nat) t v, Try.f4.params[j]? = some t → args[j]? = some v → Value.okWide Try.prog W .any base t v := hval0
  have hsz : (DataW.weightsEach Try.prog (Try.f4.params.toList ++ Rows.skipPartsSpec.plain.varTypes Try.prog) (ds ++ gs)).all (· ≤ reachBytes) = true := hsz0
  have hW' := hW
  obtain ⟨p, q, hA0, hV, rfl, hfz, hnd⟩ := hW
  have hA : DataW.TrodAll enc Try.prog W 0 (fun _ => true) true Try.f4.params.toList args.toList ds p := hA0
  rw [Try.params4] at hA hval hsz
  obtain ⟨v0, vs0, d0, ds0, p0, q0, hargs, rfl, rfl, h0, r0⟩ := trodAll_cons hA
  obtain ⟨v1, vs1, d1, ds1, p1, q1, rfl, rfl, rfl, h1, r1⟩ := trodAll_cons r0
  obtain ⟨v2, vs2, d2, ds2, p2, q2, rfl, rfl, rfl, h2, r2⟩ := trodAll_cons r1
  obtain ⟨v3, vs3, d3, ds3, p3, q3, rfl, rfl, rfl, h3, r3⟩ := trodAll_cons r2
  obtain ⟨rfl, rfl, rfl⟩ := trodAll_nil r3
  obtain rfl : args = #[v0, v1, v2, v3] := by cases args; simp_all
  obtain ⟨rfl, rfl⟩ := trodVars_none hV
  have h0k := h0
  have h1k := h1
  have h2k := h2
  have h3k := h3
  have hlt0 : ∀ x ∈ p0, x.block < W.heap.size := fun x hx => by have := hW'.lt x (by simp [hx]); simpa using this
  have hlt1 : ∀ x ∈ p1, x.block < W.heap.size := fun x hx => by have := hW'.lt x (by simp [hx]); simpa using this
  have hlt2 : ∀ x ∈ p2, x.block < W.heap.size := fun x hx => by have := hW'.lt x (by simp [hx]); simpa using this
  have hlt3 : ∀ x ∈ p3, x.block < W.heap.size := fun x hx => by have := hW'.lt x (by simp [hx]); simpa using this
  obtain ⟨tA, tn, tc, t, rfl, ht⟩ := open_tree (hval 0 24 v0 rfl rfl) h0 hsz (j := 0) rfl rfl
  obtain ⟨i, rfl, hi1, hi2⟩ := open_I64 Try.underlying3 (hval 1 3 v1 rfl rfl) h1
  obtain ⟨a, rfl, ha1, ha2⟩ := open_I64 Try.underlying3 (hval 2 3 v2 rfl rfl) h2
  obtain ⟨b, rfl, hb1, hb2⟩ := open_I64 Try.underlying3 (hval 3 3 v3 rfl rfl) h3
  clear hA0 hval0
  simp only [List.append_nil] at hW'
  refine (SkipParts_walk tA tn tc t ht i hi1 hi2 a ha1 ha2 b hb1 hb2 (w := W)).mono fun e W' ⟨he, hg⟩ => ?_
  subst he
  exact ⟨_, rfl, post_law (pa := p0 ++ (p1 ++ (p2 ++ (p3 ++ [])))) (pv := []) hW' (fun _ _ _ => (trodAll_cons_mk (shut_bool Try.underlying4 _) trodAll_mk0))
    (trodAll_cons_mk (Below.trod laidOut (by kernel_rfl) (of_decide_eq_true (by kernel_rfl)) h0k hg.out hlt0) (trodAll_cons_mk (Below.trod laidOut (by kernel_rfl) (of_decide_eq_true (by kernel_rfl)) h1k hg.out hlt1) (trodAll_cons_mk (Below.trod laidOut (by kernel_rfl) (of_decide_eq_true (by kernel_rfl)) h2k hg.out hlt2) (trodAll_cons_mk (Below.trod laidOut (by kernel_rfl) (of_decide_eq_true (by kernel_rfl)) h3k hg.out hlt3) trodAll_mk0)))) rfl (by simp) hg⟩
theorem SkipParts_holds : Rows.SkipPartsSaid :=
  OpenClaim.holds_of_wide 4 Try.f4 rfl rfl rfl rfl rfl rfl rfl ⟨rfl, rfl, rfl, rfl, rfl⟩ rfl rfl rfl rfl rfl (by kernel_rfl) Try.func4 (by kernel_rfl)
    (of_decide_eq_true (by kernel_rfl)) (by unfold Func.isWrapper; first | (rw [if_pos (by decide +kernel)]; kernel_rfl) | (rw [if_neg (by decide +kernel)]; exact ⟨rfl, rfl⟩))
    (fun os started H enc _ => SkipParts_lifted os started H enc)
#print axioms SkipParts_holds
end Go.Proofs.Ytomobdlbopbpeaa
