/- SkipTells: any tree has the leaps, and any place of it the ancestor so far above, the depth, the one at any slot, and the last one above it and any other, that the document says; for every tree, places, number and slot. -/
import Derived.Test.YtomobdlbopbpeaaSkipRefTab
import Derived.Test.YtomobdlbopbpeaaQuietX
namespace Go.Proofs.Ytomobdlbopbpeaa
open Go.RowKit Go.WideShapes Go.ChangeShapes Go.Sort
set_option linter.unusedVariables false
set_option linter.unusedSimpArgs false
set_option linter.unusedSectionVars false







set_option maxHeartbeats 4000000 in
theorem SkipTells_walk {w : World} (tA : Option Addr) (tn tc : Nat) (t : List Node) (ht : NL w tA tn tc t) (i : Int) (i1 : -9223372036854775808 ≤ i) (i2 : i ≤ 9223372036854775807) (k : Int) (kk1 : -9223372036854775808 ≤ k) (kk2 : k ≤ 9223372036854775807) (n : Int) (n1 : -9223372036854775808 ≤ n) (n2 : n ≤ 9223372036854775807) (s : Nat) (hs : s < 18446744073709551616) :
    Calls Try.prog 3 #[.agg #[.slice tA tn tc], .int .i64 i, .int .i64 k, .int .i64 n, .int .u64 s] w fun e' w' => e' = .returned (.bool true) ∧ Ext w w' := by
  have HAW := Lib.hid (fun W => awake_any W)
  by_cases h1 : 20 < tn
  · have g1 : (20 : Int) < tn := by omega
    go_enter Try.func3, Try.ntmps3
    try simp only [List.append_eq, List.cons_append, List.nil_append]
    go_wp2_with fail
    refine (HAW.out _).mono ?_
    rintro e0 w0 ⟨rfl, hx0⟩
    have k0 : Ext w w0 := Ext.trans ((by repeat (first | assumption | exact Ext.refl _ | refine Ext.alloc ?_ _ | refine Ext.drew ?_ | refine Ext.drewN ?_ _ | refine Ext.setCell ?_ (by first | (simp; done) | omega | (simp; omega)) _ | refine Ext.trans (by assumption) ?_))) hx0
    have t0 := hx0.cell (p := ⟨w.heap.size, 0, none⟩) (v := .slice tA tn tc) (by first | (simp; done) | (simp (maxDischargeDepth := 7) [go_sem]; done))
    go_wp2
    go_ret
    exact ⟨rfl, k0⟩
  have g1 : ¬ (20 : Int) < tn := by omega
  obtain ⟨mb, hmb⟩ : ∃ b, Tree.mayV t = b := ⟨_, rfl⟩
  obtain ⟨x1, hx1⟩ : ∃ x, Skip.upV t i n = x := ⟨_, rfl⟩
  obtain ⟨x2, hx2⟩ : ∃ x, Skip.deepV t i = x := ⟨_, rfl⟩
  obtain ⟨x3, hx3⟩ : ∃ x, Tree.atV t i s = x := ⟨_, rfl⟩
  obtain ⟨x4, hx4⟩ : ∃ x, Skip.meetV t i k = x := ⟨_, rfl⟩
  have HT := Lib.hid (fun W (kx : Ext w W) => Table_any tA tn tc t mb hmb W (ht.ext kx))
  have HRT := Lib.hid (fun W (kx : Ext w W) => r7table_any tA tn tc t mb hmb W (ht.ext kx))
  have HU := Lib.hid (fun W (kx : Ext w W) => up_any tA tn tc t i n W (ht.ext kx))
  have HRU := Lib.hid (fun W (kx : Ext w W) => r7up_any tA tn tc t i n n2 W (ht.ext kx))
  have HD := Lib.hid (fun W (kx : Ext w W) => deep_any tA tn tc t i W (ht.ext kx))
  have HRD := Lib.hid (fun W (kx : Ext w W) => r7deep_any tA tn tc t i W (ht.ext kx))
  have HA := Lib.hid (fun W (kx : Ext w W) => skat_any tA tn tc t i s hs W (ht.ext kx))
  have HRA := Lib.hid (fun W (kx : Ext w W) => r6at_any tA tn tc t i s hs W (ht.ext kx))
  have HM := Lib.hid (fun W (kx : Ext w W) => meet_any tA tn tc t i k W (ht.ext kx))
  have HRM := Lib.hid (fun W (kx : Ext w W) => r7meet_any tA tn tc t i k W (ht.ext kx))
  obtain ⟨M, hM⟩ : ∃ M, (if mb = true then tn else 0) = M := ⟨_, rfl⟩
  rw [hM] at HT HRT
  rw [hx1] at HU HRU
  rw [hx2] at HD HRD
  rw [hx3] at HA HRA
  rw [hx4] at HM HRM
  clear hx1 hx2 hx3 hx4 hmb hM h1 ht
  go_enter Try.func3, Try.ntmps3
  try simp only [List.append_eq, List.cons_append, List.nil_append]
  go_wp2_with fail
  refine (HAW.out _).mono ?_
  rintro e0 w0 ⟨rfl, hx0⟩
  have k0 : Ext w w0 := Ext.trans ((by repeat (first | assumption | exact Ext.refl _ | refine Ext.alloc ?_ _ | refine Ext.drew ?_ | refine Ext.drewN ?_ _ | refine Ext.setCell ?_ (by first | (simp; done) | omega | (simp; omega)) _ | refine Ext.trans (by assumption) ?_))) hx0
  have t0 := hx0.cell (p := ⟨w.heap.size, 0, none⟩) (v := .slice tA tn tc) (by first | (simp; done) | (simp (maxDischargeDepth := 7) [go_sem]; done))
  clear HAW
  have T0 := Lib.hid t0
  clear hx0
  go_upto_region 4 with fail
  go_cut [12] (fun q wx => q = .bool true ∧ Ext w0 wx)
  case first =>
    go_region_held3 (fun w' => w'.cell? ⟨w.heap.size, 0, none⟩ = some (.slice tA tn tc)) (first | go_keep | exact Ext.cell ((by repeat (first | assumption | exact Ext.refl _ | refine Ext.alloc ?_ _ | refine Ext.drew ?_ | refine Ext.drewN ?_ _ | refine Ext.setCell ?_ (by first | (simp; done) | omega | (simp; omega)) _ | refine Ext.trans (by assumption) ?_))) T0.out) (first | (go_at_call 11; (with_reducible refine (HT.out _ (Ext.trans k0 ((by repeat (first | assumption | exact Ext.refl _ | refine Ext.alloc ?_ _ | refine Ext.drew ?_ | refine Ext.drewN ?_ _ | refine Ext.setCell ?_ (by first | (simp; done) | omega | (simp; omega)) _ | refine Ext.trans (by assumption) ?_))))).mono ?_); rintro e wa ⟨⟨VA, vn, vc, rfl, hvn, ha⟩, hxa⟩; obtain rfl := hvn; have ka : Ext w0 wa := Ext.trans ((by repeat (first | assumption | exact Ext.refl _ | refine Ext.alloc ?_ _ | refine Ext.drew ?_ | refine Ext.drewN ?_ _ | refine Ext.setCell ?_ (by first | (simp; done) | omega | (simp; omega)) _ | refine Ext.trans (by assumption) ?_))) hxa) | (go_at_call 12; (with_reducible refine (HRT.out _ (Ext.trans k0 ((by repeat (first | assumption | exact Ext.refl _ | refine Ext.alloc ?_ _ | refine Ext.drew ?_ | refine Ext.drewN ?_ _ | refine Ext.setCell ?_ (by first | (simp; done) | omega | (simp; omega)) _ | refine Ext.trans (by assumption) ?_))))).mono ?_); rintro e wb ⟨⟨RA, rn, rc, rfl, hrn, hb⟩, hxb⟩; obtain rfl := hrn; have kb : Ext w0 wb := Ext.trans ((by repeat (first | assumption | exact Ext.refl _ | refine Ext.alloc ?_ _ | refine Ext.drew ?_ | refine Ext.drewN ?_ _ | refine Ext.setCell ?_ (by first | (simp; done) | omega | (simp; omega)) _ | refine Ext.trans (by assumption) ?_))) hxb) | (go_at_call 10; (with_reducible refine (r7same_any VA _ vc RA rc t _ (ha.ext ((by repeat (first | assumption | exact Ext.refl _ | refine Ext.alloc ?_ _ | refine Ext.drew ?_ | refine Ext.drewN ?_ _ | refine Ext.setCell ?_ (by first | (simp; done) | omega | (simp; omega)) _ | refine Ext.trans (by assumption) ?_)))) (hb.ext ((by repeat (first | assumption | exact Ext.refl _ | refine Ext.alloc ?_ _ | refine Ext.drew ?_ | refine Ext.drewN ?_ _ | refine Ext.setCell ?_ (by first | (simp; done) | omega | (simp; omega)) _ | refine Ext.trans (by assumption) ?_))))).mono ?_); rintro e wd ⟨rfl, hxd⟩; have kd : Ext w0 wd := Ext.trans ((by repeat (first | assumption | exact Ext.refl _ | refine Ext.alloc ?_ _ | refine Ext.drew ?_ | refine Ext.drewN ?_ _ | refine Ext.setCell ?_ (by first | (simp; done) | omega | (simp; omega)) _ | refine Ext.trans (by assumption) ?_))) hxd))
    all_goals
      go_wp2_with fail
      go_meet
      exact ⟨rfl, by assumption⟩
  case rest =>
    obtain ⟨rfl, hxc⟩ := hcut
    have kc : Ext w _ := k0.trans hxc
    replace t0 := hxc.cell T0.out
    clear HT HRT T0
    go_wp2
    have z0 := fun p => cell_in t0 p
    refine wp_region_quiet_below (by kernel_rfl) (by kernel_rfl) ?_
    repeat (first | go_big_quiet_skip | (go_big_quiet_want; first | ((fail); (try simp only [Act.put, List.setIfInBounds_toArray, List.set_cons_zero, List.set_cons_succ]); go_big_quiet_on) | (go_big_quiet_op; first | go_big_quiet_on | go_big_quiet_call (first | (go_at_call 13; exact regrown_ext (HU.out _ (Ext.trans kc (ext_regrown _ _)))) | (go_at_call 14; exact regrown_ext (HRU.out _ (Ext.trans kc (ext_regrown _ _)))) | (go_at_call 15; exact regrown_ext (HD.out _ (Ext.trans kc (ext_regrown _ _)))) | (go_at_call 16; exact regrown_ext (HRD.out _ (Ext.trans kc (ext_regrown _ _)))) | (go_at_call 17; exact regrown_ext (HA.out _ (Ext.trans kc (ext_regrown _ _)))) | (go_at_call 18; exact regrown_ext (HRA.out _ (Ext.trans kc (ext_regrown _ _)))) | (go_at_call 19; exact regrown_ext (HM.out _ (Ext.trans kc (ext_regrown _ _)))) | (go_at_call 20; exact regrown_ext (HRM.out _ (Ext.trans kc (ext_regrown _ _))))))))
    refine wpQuiet_nil ?_
    intro _ hw'
    obtain ⟨pq, hw''⟩ := hw'
    subst hw''
    go_wp2
    go_ret
    exact ⟨rfl, kc.trans (ext_regrown _ _)⟩
set_option maxRecDepth 100000 in
theorem SkipTells_lifted (os : Os) (started : os.Started) (H : Type) (enc : TypeId × Value → H) :
    ReturnsInHanded {} Try.checked os 3 .any (Rows.skipTellsSpec.pre6 enc Try.prog Try.f3 Rows.skipTellsRow.domain false) (Rows.skipTellsSpec.post enc Try.prog Try.f3 false true false false) := by
  refine returnsInHanded_of_change_sized (C := Try.checked) own started (by kernel_rfl) Try.func3
    (ChangeSpec.witness6 (enc := enc) (C := Try.checked) false ⟨#[], #[.agg #[.slice none 0 0], .int .i64 0, .int .i64 0, .int .i64 0, .int .u64 0], []⟩ 8 (by kernel_rfl) (by kernel_rfl) (by kernel_rfl) (by kernel_rfl)) ?_
  intro W base args ds gs before hval0 hW _hcnd hsz0 _
  have hval : ∀ (j : Nat) t v, Try.f3.params[j]? = some t → args[j]? = some v → Value.okWide Try.prog W .any base t v := hval0
  have hsz : (DataW.weightsEach Try.prog (Try.f3.params.toList ++ Rows.skipTellsSpec.plain.varTypes Try.prog) (ds ++ gs)).all (· ≤ reachBytes) = true := hsz0
  have hW' := hW
  obtain ⟨p, q, hA0, hV, rfl, hfz, hnd⟩ := hW
  have hA : DataW.TrodAll enc Try.prog W 0 (fun _ => true) true Try.f3.params.toList args.toList ds p := hA0
  rw [Try.params3] at hA hval hsz
  obtain ⟨v0, vs0, d0, ds0, p0, q0, hargs, rfl, rfl, h0, r0⟩ := trodAll_cons hA
  obtain ⟨v1, vs1, d1, ds1, p1, q1, rfl, rfl, rfl, h1, r1⟩ := trodAll_cons r0
  obtain ⟨v2, vs2, d2, ds2, p2, q2, rfl, rfl, rfl, h2, r2⟩ := trodAll_cons r1
  obtain ⟨v3, vs3, d3, ds3, p3, q3, rfl, rfl, rfl, h3, r3⟩ := trodAll_cons r2
  obtain ⟨v4, vs4, d4, ds4, p4, q4, rfl, rfl, rfl, h4, r4⟩ := trodAll_cons r3
  obtain ⟨rfl, rfl, rfl⟩ := trodAll_nil r4
  obtain rfl : args = #[v0, v1, v2, v3, v4] := by cases args; simp_all
  obtain ⟨rfl, rfl⟩ := trodVars_none hV
  have h0k := h0
  have h1k := h1
  have h2k := h2
  have h3k := h3
  have h4k := h4
  have hlt0 : ∀ x ∈ p0, x.block < W.heap.size := fun x hx => by have := hW'.lt x (by simp [hx]); simpa using this
  have hlt1 : ∀ x ∈ p1, x.block < W.heap.size := fun x hx => by have := hW'.lt x (by simp [hx]); simpa using this
  have hlt2 : ∀ x ∈ p2, x.block < W.heap.size := fun x hx => by have := hW'.lt x (by simp [hx]); simpa using this
  have hlt3 : ∀ x ∈ p3, x.block < W.heap.size := fun x hx => by have := hW'.lt x (by simp [hx]); simpa using this
  have hlt4 : ∀ x ∈ p4, x.block < W.heap.size := fun x hx => by have := hW'.lt x (by simp [hx]); simpa using this
  obtain ⟨tA, tn, tc, t, rfl, ht⟩ := open_tree (hval 0 24 v0 rfl rfl) h0 hsz (j := 0) rfl rfl
  obtain ⟨i, rfl, hi1, hi2⟩ := open_I64 Try.underlying3 (hval 1 3 v1 rfl rfl) h1
  obtain ⟨k, rfl, hk1, hk2⟩ := open_I64 Try.underlying3 (hval 2 3 v2 rfl rfl) h2
  obtain ⟨n, rfl, hn1, hn2⟩ := open_I64 Try.underlying3 (hval 3 3 v3 rfl rfl) h3
  obtain ⟨s, rfl, hs⟩ := open_U64 Try.underlying25 (hval 4 25 v4 rfl rfl) h4
  clear hA0 hval0
  simp only [List.append_nil] at hW'
  refine (SkipTells_walk tA tn tc t ht i hi1 hi2 k hk1 hk2 n hn1 hn2 s hs (w := W)).mono fun e W' ⟨he, hg⟩ => ?_
  subst he
  exact ⟨_, rfl, post_law (pa := p0 ++ (p1 ++ (p2 ++ (p3 ++ (p4 ++ []))))) (pv := []) hW' (fun _ _ _ => (trodAll_cons_mk (shut_bool Try.underlying4 _) trodAll_mk0))
    (trodAll_cons_mk (Below.trod laidOut (by kernel_rfl) (of_decide_eq_true (by kernel_rfl)) h0k hg.out hlt0) (trodAll_cons_mk (Below.trod laidOut (by kernel_rfl) (of_decide_eq_true (by kernel_rfl)) h1k hg.out hlt1) (trodAll_cons_mk (Below.trod laidOut (by kernel_rfl) (of_decide_eq_true (by kernel_rfl)) h2k hg.out hlt2) (trodAll_cons_mk (Below.trod laidOut (by kernel_rfl) (of_decide_eq_true (by kernel_rfl)) h3k hg.out hlt3) (trodAll_cons_mk (Below.trod laidOut (by kernel_rfl) (of_decide_eq_true (by kernel_rfl)) h4k hg.out hlt4) trodAll_mk0))))) rfl (by simp) hg⟩
theorem SkipTells_holds : Rows.SkipTellsSaid :=
  OpenClaim.holds_of_wide 3 Try.f3 rfl rfl rfl rfl rfl rfl rfl ⟨rfl, rfl, rfl, rfl, rfl⟩ rfl rfl rfl rfl rfl (by kernel_rfl) Try.func3 (by kernel_rfl)
    (of_decide_eq_true (by kernel_rfl)) (by unfold Func.isWrapper; first | (rw [if_pos (by decide +kernel)]; kernel_rfl) | (rw [if_neg (by decide +kernel)]; exact ⟨rfl, rfl⟩))
    (fun os started H enc _ => SkipTells_lifted os started H enc)
#print axioms SkipTells_holds
end Go.Proofs.Ytomobdlbopbpeaa
