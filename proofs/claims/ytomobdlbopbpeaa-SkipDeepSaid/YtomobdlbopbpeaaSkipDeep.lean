/- SkipDeep: a node is one deeper than its parent, and the last one above two is no deeper than either; for every tree and two places. -/
import Derived.Test.YtomobdlbopbpeaaSkipLaw
namespace Go.Proofs.Ytomobdlbopbpeaa
open Go.RowKit Go.WideShapes Go.ChangeShapes Go.Sort
set_option linter.unusedVariables false
set_option linter.unusedSimpArgs false
set_option linter.unusedSectionVars false






set_option maxHeartbeats 2000000 in
theorem SkipDeep_walk {w : World} (tA : Option Addr) (tn tc : Nat) (t : List Node) (ht : NL w tA tn tc t) (i : Int) (i1 : -9223372036854775808 ≤ i) (i2 : i ≤ 9223372036854775807) (k : Int) (kk1 : -9223372036854775808 ≤ k) (kk2 : k ≤ 9223372036854775807) :
    Calls Try.prog 6 #[.agg #[.slice tA tn tc], .int .i64 i, .int .i64 k] w fun e' w' => e' = .returned (.bool true) ∧ Ext w w' := by
  have hlen := ht.len
  have hroom := ht.row.room
  have HAW := Lib.hid (fun W => awake_any W)
  have HV := Lib.hid (fun W (k : Ext w W) => ht.ext k)
  have HM := Lib.hid (fun b (hb : Tree.mayV t = b) W (k : Ext w W) => treeMay_is tA tn tc t b hb W (ht.ext k))
  cases hm : Tree.mayV t with
  | false =>
    go_enter Try.func6, Try.ntmps6
    try simp only [List.append_eq, List.cons_append, List.nil_append]
    go_wp2_with fail
    refine (HAW.out _).mono ?_
    rintro e0 w0 ⟨rfl, hx0⟩
    have k0 : Ext w w0 := Ext.trans ((by repeat (first | assumption | exact Ext.refl _ | refine Ext.alloc ?_ _ | refine Ext.drew ?_ | refine Ext.drewN ?_ _ | refine Ext.setCell ?_ (by first | (simp; done) | omega | (simp; omega)) _ | refine Ext.trans (by assumption) ?_))) hx0
    have t0 := hx0.cell (p := ⟨w.heap.size, 0, none⟩) (v := .slice tA tn tc) (by first | (simp; done) | (simp (maxDischargeDepth := 7) [go_sem]; done))
    go_wp2_with fail
    refine (HM.out false hm _ k0).mono ?_
    rintro e1 w1 ⟨rfl, hx1⟩
    have k1 : Ext w w1 := k0.trans hx1
    replace t0 := hx1.cell t0
    go_wp2
    go_ret
    exact ⟨rfl, k1⟩
  | true =>
    by_cases hok : (0 ≤ i ∧ i < tn) ∧ 0 ≤ k ∧ k < tn
    · obtain ⟨⟨pi, qi⟩, pk, qk⟩ := hok
      obtain ⟨i, rfl⟩ := Int.eq_ofNat_of_zero_le pi
      obtain ⟨k, rfl⟩ := Int.eq_ofNat_of_zero_le pk
      have li : i < t.length := by omega
      have lk : k < t.length := by omega
      have hin : i < tn := by omega
      have gi : (i : Int) < tn := by omega
      have h12 := Tree.len_le hm
      rw [hlen] at h12
      obtain ⟨m, hm1, _, hmi, hmk, hla, hlb, _, _⟩ := Skip.meet_full hm li lk
      have hd1 := Skip.deep_mono hla
      have hd2 := Skip.deep_mono hlb
      have hdi := Skip.deep_le t i
      have HDX := Lib.hid (fun (a : Nat) (ha : a < t.length) x (hx : Skip.deepN t a = x) W (kx : Ext w W) => deep_is tA tn tc t a x (by rw [Skip.deepV_in hm ha, hx]) W (ht.ext kx))
      have HM1 := Lib.hid (fun W (kx : Ext w W) => meet_is tA tn tc t i k m hm1 W (ht.ext kx))
      have hz := fun h : i ≠ 0 => Skip.deep_pos (T := t) h
      have hpp := fun h : i ≠ 0 => (Tree.par_pos hm li h).2.2
      have hul := fun h : i ≠ 0 => Tree.up_lt t h
      have hdz := Skip.deep_zero t
      obtain ⟨D, hD⟩ : ∃ D, Skip.deepN t i = D := ⟨_, rfl⟩
      obtain ⟨M, hM⟩ : ∃ D, Skip.deepN t m = D := ⟨_, rfl⟩
      obtain ⟨E, hE⟩ : ∃ D, Skip.deepN t k = D := ⟨_, rfl⟩
      have HDI := Lib.hid (fun W (kx : Ext w W) => HDX.out i li D hD W kx)
      have HDM := Lib.hid (fun W (kx : Ext w W) => HDX.out m (by omega) M hM W kx)
      have HDK := Lib.hid (fun W (kx : Ext w W) => HDX.out k lk E hE W kx)
      have r1 : decide ((i : Int) < 0) = false := decide_eq_false (by omega)
      have r2 : decide ((k : Int) < 0) = false := decide_eq_false (by omega)
      have s1 : decide (tn ≤ i) = false := decide_eq_false (by omega)
      have s2 : decide (tn ≤ k) = false := decide_eq_false (by omega)
      have hmD : M ≤ D := by omega
      have hmE : M ≤ E := by omega
      by_cases h0 : i = 0
      · have HG0 : Hid (((i : Int) == 0) = true) := by show _ = _; first | (simp; done) | (simp; omega)
        have hdi0 : Skip.deepN t i = 0 := by rw [h0]; exact hdz
        obtain rfl : D = 0 := by omega
        obtain rfl : M = 0 := by omega
        clear hdi0 hz hpp hul hd1 hd2 hla hlb hM hD hE hm1 HDX hdz h0
        go_enter Try.func6, Try.ntmps6
        try simp only [List.append_eq, List.cons_append, List.nil_append]
        go_wp2_with fail
        refine (HAW.out _).mono ?_
        rintro e0 w0 ⟨rfl, hx0⟩
        have k0 : Ext w w0 := Ext.trans ((by repeat (first | assumption | exact Ext.refl _ | refine Ext.alloc ?_ _ | refine Ext.drew ?_ | refine Ext.drewN ?_ _ | refine Ext.setCell ?_ (by first | (simp; done) | omega | (simp; omega)) _ | refine Ext.trans (by assumption) ?_))) hx0
        have t0 := hx0.cell (p := ⟨w.heap.size, 0, none⟩) (v := .slice tA tn tc) (by first | (simp; done) | (simp (maxDischargeDepth := 7) [go_sem]; done))
        go_wp2_with fail
        refine (HM.out true hm _ k0).mono ?_
        rintro e1 w1 ⟨rfl, hx1⟩
        have k1 : Ext w w1 := k0.trans hx1
        replace t0 := hx1.cell t0
        clear HAW HM hm ht
        go_wp2_with fail
        refine (HDI.out _ k1).mono ?_
        rintro e2 w2 ⟨rfl, hx2⟩
        have k2 := k1.trans hx2
        replace t0 := hx2.cell t0
        go_wp2
        have z0 := fun p => cell_in t0 p
        refine wp_region_quiet_below (by kernel_rfl) (by kernel_rfl) ?_
        repeat (first | go_big_quiet_skip | (go_big_quiet_want; first | ((fail); (try simp only [Act.put, List.setIfInBounds_toArray, List.set_cons_zero, List.set_cons_succ]); go_big_quiet_on) | (go_big_quiet_op; first | go_big_quiet_on | go_big_quiet_call (first | (go_at_call 19; exact regrown_ext (HM1.out _ (Ext.trans k2 (ext_regrown _ _)))) | (go_at_call 15; exact regrown_ext (HDM.out _ (Ext.trans k2 (ext_regrown _ _))))))))
        refine wpQuiet_nil ?_
        intro _ hw'
        obtain ⟨pq, hw''⟩ := hw'
        subst hw''
        have k3 := k2.trans (ext_regrown w2 pq)
        replace t0 := cell_in t0 pq
        clear z0
        generalize grow (redrawn w2 pq.d) pq.os = w3 at *
        have g0 := HG0.out
        go_wp2
        go_ret
        exact ⟨rfl, k3⟩
      · obtain ⟨u, hu⟩ : ∃ u, Tree.up t i = u := ⟨_, rfl⟩
        have hz := hz h0
        have hpp := hpp h0
        have hul := hul h0
        rw [hu] at hz hpp hul
        obtain ⟨U, hU⟩ : ∃ U, Skip.deepN t u = U := ⟨_, rfl⟩
        have HDU := Lib.hid (fun W (kx : Ext w W) => HDX.out u (by omega) U hU W kx)
        have hDU : D = U + 1 := by omega
        have HPP := Lib.hid hpp
        have g0 : ((i : Int) == 0) = false := by first | (simp; done) | (simp; omega)
        obtain rfl : D = U + 1 := hDU
        have gm1 : (M : Int) ≤ (U : Int) + 1 := by omega
        have gm3 : M ≤ U + 1 := by omega
        have gm2 : (M : Int) ≤ E := by omega
        have hUb : U ≤ 12 := by omega
        have lu : u < t.length := by omega
        clear hz hpp hul hd1 hd2 hla hlb hM hD hm1 hdz hu
        go_enter Try.func6, Try.ntmps6
        try simp only [List.append_eq, List.cons_append, List.nil_append]
        go_wp2_with fail
        refine (HAW.out _).mono ?_
        rintro e0 w0 ⟨rfl, hx0⟩
        have k0 : Ext w w0 := Ext.trans ((by repeat (first | assumption | exact Ext.refl _ | refine Ext.alloc ?_ _ | refine Ext.drew ?_ | refine Ext.drewN ?_ _ | refine Ext.setCell ?_ (by first | (simp; done) | omega | (simp; omega)) _ | refine Ext.trans (by assumption) ?_))) hx0
        have t0 := hx0.cell (p := ⟨w.heap.size, 0, none⟩) (v := .slice tA tn tc) (by first | (simp; done) | (simp (maxDischargeDepth := 7) [go_sem]; done))
        go_wp2_with fail
        refine (HM.out true hm _ k0).mono ?_
        rintro e1 w1 ⟨rfl, hx1⟩
        have k1 : Ext w w1 := k0.trans hx1
        replace t0 := hx1.cell t0
        clear HAW HM hm ht
        go_wp2_with fail
        refine (HDI.out _ k1).mono ?_
        rintro e2 w2 ⟨rfl, hx2⟩
        have k2 := k1.trans hx2
        replace t0 := hx2.cell t0
        go_wp2
        have z0 := fun p => cell_in t0 p
        refine wp_region_quiet_below (by kernel_rfl) (by kernel_rfl) ?_
        repeat (first | go_big_quiet_skip | (go_big_quiet_want; first | ((fail); (try simp only [Act.put, List.setIfInBounds_toArray, List.set_cons_zero, List.set_cons_succ]); go_big_quiet_on) | (go_big_quiet_op; first | go_big_quiet_on | go_big_quiet_call (first | (go_at_call 19; exact regrown_ext (HM1.out _ (Ext.trans k2 (ext_regrown _ _)))) | (go_at_call 15; exact regrown_ext (HDM.out _ (Ext.trans k2 (ext_regrown _ _))))))))
        refine wpQuiet_nil ?_
        intro _ hw'
        obtain ⟨pq, hw''⟩ := hw'
        subst hw''
        have k3 := k2.trans (ext_regrown w2 pq)
        replace t0 := cell_in t0 pq
        clear z0
        generalize grow (redrawn w2 pq.d) pq.os = w3 at *
        obtain ⟨b, off, rfl, hrx, hokx⟩ := (HV.out _ k3).at' hin
        have dp := rangeAt_head hrx (Node.at32 hokx)
        change World.cell? _ _ = some (.int .i64 (Tree.nd t i).par) at dp
        rw [HPP.out] at dp
        clear hrx hokx HDI HDM HM1 HV
        go_wp2
        have z0 := fun p => cell_in t0 p
        have z1 := fun p => cell_in dp p
        refine wp_region_quiet_below (by kernel_rfl) (by kernel_rfl) ?_
        repeat (first | go_big_quiet_skip | (go_big_quiet_want; first | ((fail); (try simp only [Act.put, List.setIfInBounds_toArray, List.set_cons_zero, List.set_cons_succ]); go_big_quiet_on) | (go_big_quiet_op; first | go_big_quiet_on | go_big_quiet_call ((go_at_call 15; exact regrown_ext (HDX.out _ (by assumption) _ (by assumption) _ (Ext.trans k3 (ext_regrown _ _))))))))
        refine wpQuiet_nil ?_
        intro _ hw'
        obtain ⟨pq, hw''⟩ := hw'
        subst hw''
        go_wp2
        go_ret
        exact ⟨rfl, k3.trans (ext_regrown _ _)⟩
    · go_enter Try.func6, Try.ntmps6
      try simp only [List.append_eq, List.cons_append, List.nil_append]
      go_wp2_with fail
      refine (HAW.out _).mono ?_
      rintro e0 w0 ⟨rfl, hx0⟩
      have k0 : Ext w w0 := Ext.trans ((by repeat (first | assumption | exact Ext.refl _ | refine Ext.alloc ?_ _ | refine Ext.drew ?_ | refine Ext.drewN ?_ _ | refine Ext.setCell ?_ (by first | (simp; done) | omega | (simp; omega)) _ | refine Ext.trans (by assumption) ?_))) hx0
      have t0 := hx0.cell (p := ⟨w.heap.size, 0, none⟩) (v := .slice tA tn tc) (by first | (simp; done) | (simp (maxDischargeDepth := 7) [go_sem]; done))
      go_wp2_with fail
      refine (HM.out true hm _ k0).mono ?_
      rintro e1 w1 ⟨rfl, hx1⟩
      have k1 : Ext w w1 := k0.trans hx1
      replace t0 := hx1.cell t0
      clear HAW HM HV
      go_wp2_with fail
      all_goals (first | (go_ret; exact ⟨rfl, k1⟩) | (exfalso; apply hok; refine ⟨⟨?_, ?_⟩, ?_, ?_⟩ <;> omega))
set_option maxRecDepth 100000 in
theorem SkipDeep_lifted (os : Os) (started : os.Started) (H : Type) (enc : TypeId × Value → H) :
    ReturnsInHanded {} Try.checked os 6 .any (Rows.skipDeepSpec.pre6 enc Try.prog Try.f6 Rows.skipDeepRow.domain false) (Rows.skipDeepSpec.post enc Try.prog Try.f6 false true false false) := by
  refine returnsInHanded_of_change_sized (C := Try.checked) own started (by kernel_rfl) Try.func6
    (ChangeSpec.witness6 (enc := enc) (C := Try.checked) false ⟨#[], #[.agg #[.slice none 0 0], .int .i64 0, .int .i64 0], []⟩ 8 (by kernel_rfl) (by kernel_rfl) (by kernel_rfl) (by kernel_rfl)) ?_
  intro W base args ds gs before hval0 hW _hcnd hsz0 _
  have hval : ∀ (j : Nat) t v, Try.f6.params[j]? = some t → args[j]? = some v → Value.okWide Try.prog W .any base t v := hval0
  have hsz : (DataW.weightsEach Try.prog (Try.f6.params.toList ++ Rows.skipDeepSpec.plain.varTypes Try.prog) (ds ++ gs)).all (· ≤ reachBytes) = true := hsz0
  have hW' := hW
  obtain ⟨p, q, hA0, hV, rfl, hfz, hnd⟩ := hW
  have hA : DataW.TrodAll enc Try.prog W 0 (fun _ => true) true Try.f6.params.toList args.toList ds p := hA0
  rw [Try.params6] at hA hval hsz
  obtain ⟨v0, vs0, d0, ds0, p0, q0, hargs, rfl, rfl, h0, r0⟩ := trodAll_cons hA
  obtain ⟨v1, vs1, d1, ds1, p1, q1, rfl, rfl, rfl, h1, r1⟩ := trodAll_cons r0
  obtain ⟨v2, vs2, d2, ds2, p2, q2, rfl, rfl, rfl, h2, r2⟩ := trodAll_cons r1
  obtain ⟨rfl, rfl, rfl⟩ := trodAll_nil r2
  obtain rfl : args = #[v0, v1, v2] := by cases args; simp_all
  obtain ⟨rfl, rfl⟩ := trodVars_none hV
  have h0k := h0
  have h1k := h1
  have h2k := h2
  have hlt0 : ∀ x ∈ p0, x.block < W.heap.size := fun x hx => by have := hW'.lt x (by simp [hx]); simpa using this
  have hlt1 : ∀ x ∈ p1, x.block < W.heap.size := fun x hx => by have := hW'.lt x (by simp [hx]); simpa using this
  have hlt2 : ∀ x ∈ p2, x.block < W.heap.size := fun x hx => by have := hW'.lt x (by simp [hx]); simpa using this
  obtain ⟨tA, tn, tc, t, rfl, ht⟩ := open_tree (hval 0 24 v0 rfl rfl) h0 hsz (j := 0) rfl rfl
  obtain ⟨i, rfl, hi1, hi2⟩ := open_I64 Try.underlying3 (hval 1 3 v1 rfl rfl) h1
  obtain ⟨k, rfl, hk1, hk2⟩ := open_I64 Try.underlying3 (hval 2 3 v2 rfl rfl) h2
  clear hA0 hval0
  simp only [List.append_nil] at hW'
  refine (SkipDeep_walk tA tn tc t ht i hi1 hi2 k hk1 hk2 (w := W)).mono fun e W' ⟨he, hg⟩ => ?_
  subst he
  exact ⟨_, rfl, post_law (pa := p0 ++ (p1 ++ (p2 ++ []))) (pv := []) hW' (fun _ _ _ => (trodAll_cons_mk (shut_bool Try.underlying4 _) trodAll_mk0))
    (trodAll_cons_mk (Below.trod laidOut (by kernel_rfl) (of_decide_eq_true (by kernel_rfl)) h0k hg.out hlt0) (trodAll_cons_mk (Below.trod laidOut (by kernel_rfl) (of_decide_eq_true (by kernel_rfl)) h1k hg.out hlt1) (trodAll_cons_mk (Below.trod laidOut (by kernel_rfl) (of_decide_eq_true (by kernel_rfl)) h2k hg.out hlt2) trodAll_mk0))) rfl (by simp) hg⟩
theorem SkipDeep_holds : Rows.SkipDeepSaid :=
  OpenClaim.holds_of_wide 6 Try.f6 rfl rfl rfl rfl rfl rfl rfl ⟨rfl, rfl, rfl, rfl, rfl⟩ rfl rfl rfl rfl rfl (by kernel_rfl) Try.func6 (by kernel_rfl)
    (of_decide_eq_true (by kernel_rfl)) (by unfold Func.isWrapper; first | (rw [if_pos (by decide +kernel)]; kernel_rfl) | (rw [if_neg (by decide +kernel)]; exact ⟨rfl, rfl⟩))
    (fun os started H enc _ => SkipDeep_lifted os started H enc)
#print axioms SkipDeep_holds
end Go.Proofs.Ytomobdlbopbpeaa
