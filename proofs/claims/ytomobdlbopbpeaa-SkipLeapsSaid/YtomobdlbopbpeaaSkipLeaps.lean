/- SkipLeaps: each leap is two of half its length, and the first one goes to the parent; for every tree, place and leap. -/
import Derived.Test.YtomobdlbopbpeaaSkipLaw
namespace Go.Proofs.Ytomobdlbopbpeaa
open Go.RowKit Go.WideShapes Go.ChangeShapes Go.Sort
set_option linter.unusedVariables false
set_option linter.unusedSimpArgs false
set_option linter.unusedSectionVars false






set_option maxHeartbeats 2000000 in
theorem SkipLeaps_walk {w : World} (tA : Option Addr) (tn tc : Nat) (t : List Node) (ht : NL w tA tn tc t) (i : Int) (i1 : -9223372036854775808 ≤ i) (i2 : i ≤ 9223372036854775807) (k : Int) (kk1 : -9223372036854775808 ≤ k) (kk2 : k ≤ 9223372036854775807) :
    Calls Try.prog 7 #[.agg #[.slice tA tn tc], .int .i64 i, .int .i64 k] w fun e' w' => e' = .returned (.bool true) ∧ Ext w w' := by
  have hlen := ht.len
  have hroom := ht.row.room
  have HAW := Lib.hid (fun W => awake_any W)
  have HV := Lib.hid (fun W (k : Ext w W) => ht.ext k)
  have HM := Lib.hid (fun b (hb : Tree.mayV t = b) W (k : Ext w W) => treeMay_is tA tn tc t b hb W (ht.ext k))
  cases hm : Tree.mayV t with
  | false =>
    go_enter Try.func7, Try.ntmps7
    try simp only [List.append_eq, List.cons_append, List.nil_append]
    go_wp2_with fail
    refine (HAW.out _).mono ?_
    rintro e0 w0 ⟨rfl, hx0⟩
    have k0 : Ext w w0 := Ext.trans ((by repeat (first | assumption | exact Ext.refl _ | refine Ext.alloc ?_ _ | refine Ext.drew ?_ | refine Ext.drewN ?_ _ | refine Ext.setCell ?_ (by first | (simp; done) | omega | (simp; omega)) _ | refine Ext.trans (by assumption) ?_))) hx0
    have t0 := hx0.cell (p := ⟨w.heap.size, 0, none⟩) (v := .slice tA tn tc) (by first | (simp; done) | (simp (maxDischargeDepth := 7) [go_sem]; done))
    go_wp2_with fail
    refine (HM.out false hm _ k0).mono ?_
    rintro e1 w1 ⟨rfl, hx1⟩
    have k1 : Ext w w1 := k0.trans hx1
    replace t0 := hx1.cell t0
    go_wp2
    go_ret
    exact ⟨rfl, k1⟩
  | true =>
    by_cases hok : (0 ≤ i ∧ i < tn) ∧ 0 ≤ k ∧ k ≤ 2
    · obtain ⟨⟨pi, qi⟩, pk, qk⟩ := hok
      obtain ⟨i, rfl⟩ := Int.eq_ofNat_of_zero_le pi
      obtain ⟨k, rfl⟩ := Int.eq_ofNat_of_zero_le pk
      have li : i < t.length := by omega
      have hin : i < tn := by omega
      have gi : (i : Int) < tn := by omega
      have HT := Lib.hid (fun W (kx : Ext w W) => Table_any tA tn tc t true hm W (ht.ext kx))
      have hp0 := Skip.leap_zero hm li
      have hnx := Skip.leap_next t i k
      have hlc := Skip.leap_cases t i k
      have r1 : decide ((i : Int) < 0) = false := decide_eq_false (by omega)
      have r2 : decide ((k : Int) < 0) = false := decide_eq_false (by omega)
      have r3 : decide ((2 : Int) < k) = false := decide_eq_false (by omega)
      have r4 : decide (2 < k) = false := decide_eq_false (by omega)
      have s1 : decide (tn ≤ i) = false := decide_eq_false (by omega)
      have gk : (k : Int) < 4 := by omega
      have gk1 : (k : Int) + 1 < 4 := by omega
      have HP0 := Lib.hid hp0
      have HNX := Lib.hid hnx
      have HLC := Lib.hid hlc
      clear hp0 hnx hlc
      go_enter Try.func7, Try.ntmps7
      try simp only [List.append_eq, List.cons_append, List.nil_append]
      go_wp2_with fail
      refine (HAW.out _).mono ?_
      rintro e0 w0 ⟨rfl, hx0⟩
      have k0 : Ext w w0 := Ext.trans ((by repeat (first | assumption | exact Ext.refl _ | refine Ext.alloc ?_ _ | refine Ext.drew ?_ | refine Ext.drewN ?_ _ | refine Ext.setCell ?_ (by first | (simp; done) | omega | (simp; omega)) _ | refine Ext.trans (by assumption) ?_))) hx0
      have t0 := hx0.cell (p := ⟨w.heap.size, 0, none⟩) (v := .slice tA tn tc) (by first | (simp; done) | (simp (maxDischargeDepth := 7) [go_sem]; done))
      go_wp2_with fail
      refine (HM.out true hm _ k0).mono ?_
      rintro e1 w1 ⟨rfl, hx1⟩
      have k1 : Ext w w1 := k0.trans hx1
      replace t0 := hx1.cell t0
      clear HAW HM hm ht
      go_wp2_with fail
      refine (HT.out _ k1).mono ?_
      rintro e2 w2 ⟨⟨B, m, d, rfl, hmn, hT⟩, hx2⟩
      obtain rfl : m = tn := hmn
      have k2 := k1.trans hx2
      replace t0 := hx2.cell t0
      obtain ⟨tb, to, rfl, hr⟩ := hT.at' hin
      have c0 := row_cell hr (k := 0) (by omega)
      have ck := row_cell hr (k := k) (by omega)
      have cn := row_cell hr (k := k + 1) (by omega)
      simp only [Nat.add_zero] at c0
      rw [HP0.out] at c0
      obtain ⟨b, off, rfl, hrx, hokx⟩ := (HV.out _ k2).at' hin
      have dp := rangeAt_head hrx (Node.at32 hokx)
      change World.cell? _ _ = some (.int .i64 (Tree.nd t i).par) at dp
      generalize (Tree.nd t i).par = p at *
      have gp : (p != p) = false := by simp
      clear hr hrx hokx HV
      rcases HLC.out with ⟨h1, _, _⟩ | ⟨q, h1, _, _, hlt, _⟩
      · have h2 := HNX.out
        rw [if_pos h1] at h2
        rw [h1] at ck
        rw [h2] at cn
        clear h1 h2 hT
        go_wp2
        have z0 := fun p => cell_in t0 p
        have z1 := fun p => cell_in c0 p
        have z2 := fun p => cell_in dp p
        refine wp_region_quiet_below (by kernel_rfl) (by kernel_rfl) ?_
        repeat (first | go_big_quiet_skip | (go_big_quiet_want; first | ((fail); (try simp only [Act.put, List.setIfInBounds_toArray, List.set_cons_zero, List.set_cons_succ]); go_big_quiet_on) | (go_big_quiet_op; first | go_big_quiet_on | go_big_quiet_call (fail))))
        refine wpQuiet_nil ?_
        intro _ hw'
        obtain ⟨pq, hw''⟩ := hw'
        subst hw''
        have y0 := cell_in ck pq
        have y1 := cell_in cn pq
        have k3 := k2.trans (ext_regrown w2 pq)
        clear z0 z1 z2
        generalize grow (redrawn w2 pq.d) pq.os = w3 at *
        go_wp2
        go_ret
        exact ⟨rfl, k3⟩
      · have h2 := HNX.out
        rw [if_neg (by omega)] at h2
        rw [h1, Int.toNat_natCast] at h2
        rw [h1] at ck
        rw [h2] at cn
        have hqn : q < m := by omega
        obtain ⟨tb', to', e', hr2⟩ := hT.at' hqn
        obtain ⟨rfl, rfl⟩ : tb = tb' ∧ to = to' := by simpa using e'
        have cq := row_cell hr2 (k := k) (by omega)
        have gq : (q : Int) < m := by omega
        have gq2 : decide (m ≤ q) = false := decide_eq_false (by omega)
        have gq3 : decide ((q : Int) < 0) = false := decide_eq_false (by omega)
        generalize Skip.leap t q k = y at *
        clear h1 h2 hT hr2 e'
        go_wp2
        have z0 := fun p => cell_in t0 p
        have z1 := fun p => cell_in c0 p
        have z2 := fun p => cell_in dp p
        refine wp_region_quiet_below (by kernel_rfl) (by kernel_rfl) ?_
        repeat (first | go_big_quiet_skip | (go_big_quiet_want; first | ((fail); (try simp only [Act.put, List.setIfInBounds_toArray, List.set_cons_zero, List.set_cons_succ]); go_big_quiet_on) | (go_big_quiet_op; first | go_big_quiet_on | go_big_quiet_call (fail))))
        refine wpQuiet_nil ?_
        intro _ hw'
        obtain ⟨pq, hw''⟩ := hw'
        subst hw''
        have y0 := cell_in ck pq
        have y1 := cell_in cn pq
        have y2 := cell_in cq pq
        have k3 := k2.trans (ext_regrown w2 pq)
        clear z0 z1 z2
        generalize grow (redrawn w2 pq.d) pq.os = w3 at *
        go_wp2
        have z1 := fun p => cell_in y1 p
        have z2 := fun p => cell_in y2 p
        refine wp_region_quiet_below (by kernel_rfl) (by kernel_rfl) ?_
        repeat (first | go_big_quiet_skip | (go_big_quiet_want; first | ((fail); (try simp only [Act.put, List.setIfInBounds_toArray, List.set_cons_zero, List.set_cons_succ]); go_big_quiet_on) | (go_big_quiet_op; first | go_big_quiet_on | go_big_quiet_call (fail))))
        refine wpQuiet_nil ?_
        intro _ hw'
        obtain ⟨pq, hw''⟩ := hw'
        subst hw''
        go_wp2
        go_ret
        exact ⟨rfl, k3.trans (ext_regrown _ _)⟩
    · go_enter Try.func7, Try.ntmps7
      try simp only [List.append_eq, List.cons_append, List.nil_append]
      go_wp2_with fail
      refine (HAW.out _).mono ?_
      rintro e0 w0 ⟨rfl, hx0⟩
      have k0 : Ext w w0 := Ext.trans ((by repeat (first | assumption | exact Ext.refl _ | refine Ext.alloc ?_ _ | refine Ext.drew ?_ | refine Ext.drewN ?_ _ | refine Ext.setCell ?_ (by first | (simp; done) | omega | (simp; omega)) _ | refine Ext.trans (by assumption) ?_))) hx0
      have t0 := hx0.cell (p := ⟨w.heap.size, 0, none⟩) (v := .slice tA tn tc) (by first | (simp; done) | (simp (maxDischargeDepth := 7) [go_sem]; done))
      go_wp2_with fail
      refine (HM.out true hm _ k0).mono ?_
      rintro e1 w1 ⟨rfl, hx1⟩
      have k1 : Ext w w1 := k0.trans hx1
      replace t0 := hx1.cell t0
      clear HAW HM HV
      go_wp2_with fail
      all_goals (first | (go_ret; exact ⟨rfl, k1⟩) | (exfalso; apply hok; refine ⟨⟨?_, ?_⟩, ?_, ?_⟩ <;> omega))
set_option maxRecDepth 100000 in
theorem SkipLeaps_lifted (os : Os) (started : os.Started) (H : Type) (enc : TypeId × Value → H) :
    ReturnsInHanded {} Try.checked os 7 .any (Rows.skipLeapsSpec.pre6 enc Try.prog Try.f7 Rows.skipLeapsRow.domain false) (Rows.skipLeapsSpec.post enc Try.prog Try.f7 false true false false) := by
  refine returnsInHanded_of_change_sized (C := Try.checked) own started (by kernel_rfl) Try.func7
    (ChangeSpec.witness6 (enc := enc) (C := Try.checked) false ⟨#[], #[.agg #[.slice none 0 0], .int .i64 0, .int .i64 0], []⟩ 8 (by kernel_rfl) (by kernel_rfl) (by kernel_rfl) (by kernel_rfl)) ?_
  intro W base args ds gs before hval0 hW _hcnd hsz0 _
  have hval : ∀ (j : Nat) t v, Try.f7.params[j]? = some t → args[j]? = some v → Value.okWide Try.prog W .any base t v := hval0
  have hsz : (DataW.weightsEach Try.prog (Try.f7.params.toList ++ Rows.skipLeapsSpec.plain.varTypes Try.prog) (ds ++ gs)).all (· ≤ reachBytes) = true := hsz0
  have hW' := hW
  obtain ⟨p, q, hA0, hV, rfl, hfz, hnd⟩ := hW
  have hA : DataW.TrodAll enc Try.prog W 0 (fun _ => true) true Try.f7.params.toList args.toList ds p := hA0
  rw [Try.params7] at hA hval hsz
  obtain ⟨v0, vs0, d0, ds0, p0, q0, hargs, rfl, rfl, h0, r0⟩ := trodAll_cons hA
  obtain ⟨v1, vs1, d1, ds1, p1, q1, rfl, rfl, rfl, h1, r1⟩ := trodAll_cons r0
  obtain ⟨v2, vs2, d2, ds2, p2, q2, rfl, rfl, rfl, h2, r2⟩ := trodAll_cons r1
  obtain ⟨rfl, rfl, rfl⟩ := trodAll_nil r2
  obtain rfl : args = #[v0, v1, v2] := by cases args; simp_all
  obtain ⟨rfl, rfl⟩ := trodVars_none hV
  have h0k := h0
  have h1k := h1
  have h2k := h2
  have hlt0 : ∀ x ∈ p0, x.block < W.heap.size := fun x hx => by have := hW'.lt x (by simp [hx]); simpa using this
  have hlt1 : ∀ x ∈ p1, x.block < W.heap.size := fun x hx => by have := hW'.lt x (by simp [hx]); simpa using this
  have hlt2 : ∀ x ∈ p2, x.block < W.heap.size := fun x hx => by have := hW'.lt x (by simp [hx]); simpa using this
  obtain ⟨tA, tn, tc, t, rfl, ht⟩ := open_tree (hval 0 24 v0 rfl rfl) h0 hsz (j := 0) rfl rfl
  obtain ⟨i, rfl, hi1, hi2⟩ := open_I64 Try.underlying3 (hval 1 3 v1 rfl rfl) h1
  obtain ⟨k, rfl, hk1, hk2⟩ := open_I64 Try.underlying3 (hval 2 3 v2 rfl rfl) h2
  clear hA0 hval0
  simp only [List.append_nil] at hW'
  refine (SkipLeaps_walk tA tn tc t ht i hi1 hi2 k hk1 hk2 (w := W)).mono fun e W' ⟨he, hg⟩ => ?_
  subst he
  exact ⟨_, rfl, post_law (pa := p0 ++ (p1 ++ (p2 ++ []))) (pv := []) hW' (fun _ _ _ => (trodAll_cons_mk (shut_bool Try.underlying4 _) trodAll_mk0))
    (trodAll_cons_mk (Below.trod laidOut (by kernel_rfl) (of_decide_eq_true (by kernel_rfl)) h0k hg.out hlt0) (trodAll_cons_mk (Below.trod laidOut (by kernel_rfl) (of_decide_eq_true (by kernel_rfl)) h1k hg.out hlt1) (trodAll_cons_mk (Below.trod laidOut (by kernel_rfl) (of_decide_eq_true (by kernel_rfl)) h2k hg.out hlt2) trodAll_mk0))) rfl (by simp) hg⟩
theorem SkipLeaps_holds : Rows.SkipLeapsSaid :=
  OpenClaim.holds_of_wide 7 Try.f7 rfl rfl rfl rfl rfl rfl rfl ⟨rfl, rfl, rfl, rfl, rfl⟩ rfl rfl rfl rfl rfl (by kernel_rfl) Try.func7 (by kernel_rfl)
    (of_decide_eq_true (by kernel_rfl)) (by unfold Func.isWrapper; first | (rw [if_pos (by decide +kernel)]; kernel_rfl) | (rw [if_neg (by decide +kernel)]; exact ⟨rfl, rfl⟩))
    (fun os started H enc _ => SkipLeaps_lifted os started H enc)
#print axioms SkipLeaps_holds
end Go.Proofs.Ytomobdlbopbpeaa
