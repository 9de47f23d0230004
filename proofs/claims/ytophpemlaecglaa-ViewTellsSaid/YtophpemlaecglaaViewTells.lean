/- ViewTells: which blocks of any tree may be a head, which lead on, and where one begins, is what the document says; for every tree, number, places and root. -/
import Derived.Test.YtophpemlaecglaaViewRef
import Derived.Test.YtophpemlaecglaaQuietX
import Derived.Deep.DeepCutAuto
import Derived.Deep.RegionHeld3
namespace Go.Proofs.Ytophpemlaecglaa
open Go.RowKit Go.WideShapes Go.ChangeShapes Go.Sort
set_option linter.unusedVariables false
set_option linter.unusedSimpArgs false
set_option linter.unusedSectionVars false






set_option maxHeartbeats 2000000 in
theorem ViewTells_walk {w : World} (tA : Option Addr) (tn tc : Nat) (t : List Node) (ht : NL w tA tn tc t) (j : Nat) (hj : j < 18446744073709551616) (f : Int) (f1 : -9223372036854775808 ≤ f) (f2 : f ≤ 9223372036854775807) (i : Int) (i1 : -9223372036854775808 ≤ i) (i2 : i ≤ 9223372036854775807) (r : List Int) (hr : RootOk r) :
    Calls Try.prog 3 #[.agg #[.slice tA tn tc], .int .u64 j, .int .i64 f, .int .i64 i, .agg (rootC r).toArray] w fun e' w' => e' = .returned (.bool true) ∧ Ext w w' := by
  have HAW := Lib.hid (fun W => awake_any W)
  have hi32 : (Try.prog.info? 27).map (·.size) = some (rootC r).length := by rw [rootC_len hr]; kernel_rfl
  have wf := wf_i64 f1 f2
  have wi := wf_i64 i1 i2
  by_cases h1 : 20 < tn
  · have g1 : (20 : Int) < tn := by omega
    go_enter Try.func3, Try.ntmps3
    try simp only [List.append_eq, List.cons_append, List.nil_append]
    go_wp2_with fail
    refine (HAW.out _).mono ?_
    rintro e0 w0 ⟨rfl, hx0⟩
    have k0 : Ext w w0 := Ext.trans ((by repeat (first | assumption | exact Ext.refl _ | refine Ext.alloc ?_ _ | refine Ext.drew ?_ | refine Ext.drewN ?_ _ | refine Ext.setCell ?_ (by first | (simp; done) | omega | (simp; omega)) _ | refine Ext.trans (by assumption) ?_))) hx0
    have t0 := hx0.cell (p := ⟨w.heap.size, 0, none⟩) (v := .slice tA tn tc) (by first | (simp; done) | (simp (maxDischargeDepth := 7) [go_sem]; done))
    go_wp2
    go_ret
    exact ⟨rfl, k0⟩
  have g1 : ¬ (20 : Int) < tn := by omega
  obtain ⟨l, hl⟩ : ∃ l, View.leadsV t j f = l := ⟨_, rfl⟩
  obtain ⟨b, hb⟩ : ∃ b, View.leafV t j f i = b := ⟨_, rfl⟩
  obtain ⟨x, hx⟩ : ∃ x, View.fromV t r f = x := ⟨_, rfl⟩
  have HL := Lib.hid (fun W (kx : Ext w W) => vleads_any tA tn tc t j hj f wf W (ht.ext kx))
  have HRL := Lib.hid (fun W (kx : Ext w W) => rleads_any tA tn tc t j hj f wf W (ht.ext kx))
  have HF := Lib.hid (fun W (kx : Ext w W) => vleaf_any tA tn tc t j hj f i wf wi W (ht.ext kx))
  have HRF := Lib.hid (fun W (kx : Ext w W) => rleaf_any tA tn tc t j hj f i wf wi W (ht.ext kx))
  have HR := Lib.hid (fun W (kx : Ext w W) => vfrom_any tA tn tc t r hr f wf W (ht.ext kx))
  have HRR := Lib.hid (fun W (kx : Ext w W) => rfrom_any tA tn tc t r hr f wf W (ht.ext kx))
  rw [hl] at HL HRL
  rw [hb] at HF HRF
  rw [hx] at HR HRR
  clear hl hb hx h1 ht
  go_enter Try.func3, Try.ntmps3
  try simp only [List.append_eq, List.cons_append, List.nil_append]
  go_wp2_with fail
  refine (HAW.out _).mono ?_
  rintro e0 w0 ⟨rfl, hx0⟩
  have k0 : Ext w w0 := Ext.trans ((by repeat (first | assumption | exact Ext.refl _ | refine Ext.alloc ?_ _ | refine Ext.drew ?_ | refine Ext.drewN ?_ _ | refine Ext.setCell ?_ (by first | (simp; done) | omega | (simp; omega)) _ | refine Ext.trans (by assumption) ?_))) hx0
  have t0 := hx0.cell (p := ⟨w.heap.size, 0, none⟩) (v := .slice tA tn tc) (by first | (simp; done) | (simp (maxDischargeDepth := 7) [go_sem]; done))
  clear HAW
  have rR : w0.rangeAt (w.heap.size + 1) 0 (rootC r) := rangeAt_ext (range_at (w := w.alloc (.cells #[.slice tA tn tc] 24)) (B := w.heap.size + 1) (rootC r) 27 (by simp)) hx0
  have T0 := Lib.hid t0
  have RR := Lib.hid rR
  clear hx0
  go_upto_region 4 with fail
  go_cut [12] (fun q wx => q = .bool true ∧ Ext w0 wx)
  case first =>
    go_region_held3 (fun w' => w'.cell? ⟨w.heap.size, 0, none⟩ = some (.slice tA tn tc)) (first | go_keep | exact Ext.cell ((by repeat (first | assumption | exact Ext.refl _ | refine Ext.alloc ?_ _ | refine Ext.drew ?_ | refine Ext.drewN ?_ _ | refine Ext.setCell ?_ (by first | (simp; done) | omega | (simp; omega)) _ | refine Ext.trans (by assumption) ?_))) T0.out) (first | (go_at_call 11; (with_reducible refine (HL.out _ (Ext.trans k0 ((by repeat (first | assumption | exact Ext.refl _ | refine Ext.alloc ?_ _ | refine Ext.drew ?_ | refine Ext.drewN ?_ _ | refine Ext.setCell ?_ (by first | (simp; done) | omega | (simp; omega)) _ | refine Ext.trans (by assumption) ?_))))).mono ?_); rintro e wa ⟨⟨va, rfl, ⟨VA, vn, vc, rfl, ha⟩⟩, hxa⟩; have ka : Ext w0 wa := Ext.trans ((by repeat (first | assumption | exact Ext.refl _ | refine Ext.alloc ?_ _ | refine Ext.drew ?_ | refine Ext.drewN ?_ _ | refine Ext.setCell ?_ (by first | (simp; done) | omega | (simp; omega)) _ | refine Ext.trans (by assumption) ?_))) hxa) | (go_at_call 12; (with_reducible refine (HRL.out _ (Ext.trans k0 ((by repeat (first | assumption | exact Ext.refl _ | refine Ext.alloc ?_ _ | refine Ext.drew ?_ | refine Ext.drewN ?_ _ | refine Ext.setCell ?_ (by first | (simp; done) | omega | (simp; omega)) _ | refine Ext.trans (by assumption) ?_))))).mono ?_); rintro e wb ⟨⟨vb, rfl, ⟨RA, rn, rc, rfl, hb⟩⟩, hxb⟩; have kb : Ext w0 wb := Ext.trans ((by repeat (first | assumption | exact Ext.refl _ | refine Ext.alloc ?_ _ | refine Ext.drew ?_ | refine Ext.drewN ?_ _ | refine Ext.setCell ?_ (by first | (simp; done) | omega | (simp; omega)) _ | refine Ext.trans (by assumption) ?_))) hxb) | (go_at_call 10; (with_reducible refine (rbools_any VA vn vc RA rn rc l l _ (ha.ext ((by repeat (first | assumption | exact Ext.refl _ | refine Ext.alloc ?_ _ | refine Ext.drew ?_ | refine Ext.drewN ?_ _ | refine Ext.setCell ?_ (by first | (simp; done) | omega | (simp; omega)) _ | refine Ext.trans (by assumption) ?_)))) (hb.ext ((by repeat (first | assumption | exact Ext.refl _ | refine Ext.alloc ?_ _ | refine Ext.drew ?_ | refine Ext.drewN ?_ _ | refine Ext.setCell ?_ (by first | (simp; done) | omega | (simp; omega)) _ | refine Ext.trans (by assumption) ?_))))).mono ?_); rintro e wd ⟨rfl, hxd⟩; have kd : Ext w0 wd := Ext.trans ((by repeat (first | assumption | exact Ext.refl _ | refine Ext.alloc ?_ _ | refine Ext.drew ?_ | refine Ext.drewN ?_ _ | refine Ext.setCell ?_ (by first | (simp; done) | omega | (simp; omega)) _ | refine Ext.trans (by assumption) ?_))) hxd))
    all_goals
      go_wp2_with fail
      go_meet
      exact ⟨rfl, by assumption⟩
  case rest =>
    obtain ⟨rfl, hxc⟩ := hcut
    have kc : Ext w _ := k0.trans hxc
    replace t0 := hxc.cell T0.out
    have rC := rangeAt_ext RR.out hxc
    clear HL HRL rR T0 RR
    go_wp2_with fail
    refine (HRF.out _ kc).mono ?_
    rintro e w2 ⟨rfl, hx2⟩
    have k2 : Ext w w2 := kc.trans hx2
    replace t0 := hx2.cell t0
    have r2 := rangeAt_ext rC hx2
    clear rC
    go_wp2
    have z0 := fun p => cell_in t0 p
    refine wp_region_quiet_below (by kernel_rfl) (by kernel_rfl) ?_
    repeat (first | go_big_quiet_skip | (go_big_quiet_want; first | ((refine quiet_load_mid 27 _ rfl _ _ rfl (rootC r) _ (fun W ⟨p, hp⟩ => hp ▸ rangeAt_ext r2 (ext_regrown _ p)) Try.underlying27 rfl hi32 ?_); (try simp only [Act.put, List.setIfInBounds_toArray, List.set_cons_zero, List.set_cons_succ]); go_big_quiet_on) | (go_big_quiet_op; first | go_big_quiet_on | go_big_quiet_call (first | (go_at_call 14; exact regrown_ext (HF.out _ (Ext.trans k2 (ext_regrown _ _)))) | (go_at_call 15; exact regrown_ext (HR.out _ (Ext.trans k2 (ext_regrown _ _)))) | (go_at_call 16; exact regrown_ext (HRR.out _ (Ext.trans k2 (ext_regrown _ _))))))))
    refine wpQuiet_nil ?_
    intro _ hw'
    obtain ⟨pq, hw''⟩ := hw'
    subst hw''
    go_wp2
    go_ret
    exact ⟨rfl, k2.trans (ext_regrown _ _)⟩
set_option maxRecDepth 100000 in
theorem ViewTells_lifted (os : Os) (started : os.Started) (H : Type) (enc : TypeId × Value → H) :
    ReturnsInHanded {} Try.checked os 3 .any (Rows.viewTellsSpec.pre6 enc Try.prog Try.f3 Rows.viewTellsRow.domain false) (Rows.viewTellsSpec.post enc Try.prog Try.f3 false true false false) := by
  refine returnsInHanded_of_change_sized (C := Try.checked) own started (by kernel_rfl) Try.func3
    (ChangeSpec.witness6 (enc := enc) (C := Try.checked) false ⟨#[], #[.agg #[.slice none 0 0], .int .u64 0, .int .i64 0, .int .i64 0, .agg (rootC zeroR).toArray], []⟩ 8 (by kernel_rfl) (by kernel_rfl) (by kernel_rfl) (by kernel_rfl)) ?_
  intro W base args ds gs before hval0 hW _hcnd hsz0 _
  have hval : ∀ (j : Nat) t v, Try.f3.params[j]? = some t → args[j]? = some v → Value.okWide Try.prog W .any base t v := hval0
  have hsz : (DataW.weightsEach Try.prog (Try.f3.params.toList ++ Rows.viewTellsSpec.plain.varTypes Try.prog) (ds ++ gs)).all (· ≤ reachBytes) = true := hsz0
  have hW' := hW
  obtain ⟨p, q, hA0, hV, rfl, hfz, hnd⟩ := hW
  have hA : DataW.TrodAll enc Try.prog W 0 (fun _ => true) true Try.f3.params.toList args.toList ds p := hA0
  rw [Try.params3] at hA hval hsz
  obtain ⟨v0, vs0, d0, ds0, p0, q0, hargs, rfl, rfl, h0, r0⟩ := trodAll_cons hA
  obtain ⟨v1, vs1, d1, ds1, p1, q1, rfl, rfl, rfl, h1, r1⟩ := trodAll_cons r0
  obtain ⟨v2, vs2, d2, ds2, p2, q2, rfl, rfl, rfl, h2, r2⟩ := trodAll_cons r1
  obtain ⟨v3, vs3, d3, ds3, p3, q3, rfl, rfl, rfl, h3, r3⟩ := trodAll_cons r2
  obtain ⟨v4, vs4, d4, ds4, p4, q4, rfl, rfl, rfl, h4, r4⟩ := trodAll_cons r3
  obtain ⟨rfl, rfl, rfl⟩ := trodAll_nil r4
  obtain rfl : args = #[v0, v1, v2, v3, v4] := by cases args; simp_all
  obtain ⟨rfl, rfl⟩ := trodVars_none hV
  have h0k := h0
  have h1k := h1
  have h2k := h2
  have h3k := h3
  have h4k := h4
  have hlt0 : ∀ x ∈ p0, x.block < W.heap.size := fun x hx => by have := hW'.lt x (by simp [hx]); simpa using this
  have hlt1 : ∀ x ∈ p1, x.block < W.heap.size := fun x hx => by have := hW'.lt x (by simp [hx]); simpa using this
  have hlt2 : ∀ x ∈ p2, x.block < W.heap.size := fun x hx => by have := hW'.lt x (by simp [hx]); simpa using this
  have hlt3 : ∀ x ∈ p3, x.block < W.heap.size := fun x hx => by have := hW'.lt x (by simp [hx]); simpa using this
  have hlt4 : ∀ x ∈ p4, x.block < W.heap.size := fun x hx => by have := hW'.lt x (by simp [hx]); simpa using this
  obtain ⟨tA, tn, tc, t, rfl, ht⟩ := open_tree (hval 0 24 v0 rfl rfl) h0 hsz (j := 0) rfl rfl
  obtain ⟨j, rfl, hj⟩ := open_U64 Try.underlying25 (hval 1 25 v1 rfl rfl) h1
  obtain ⟨f, rfl, hf1, hf2⟩ := open_I64 Try.underlying3 (hval 2 3 v2 rfl rfl) h2
  obtain ⟨i, rfl, hi1, hi2⟩ := open_I64 Try.underlying3 (hval 3 3 v3 rfl rfl) h3
  obtain ⟨r, rfl, hr⟩ := open_root (hval 4 27 v4 rfl rfl) h4
  clear hA0 hval0
  simp only [List.append_nil] at hW'
  refine (ViewTells_walk tA tn tc t ht j hj f hf1 hf2 i hi1 hi2 r hr (w := W)).mono fun e W' ⟨he, hg⟩ => ?_
  subst he
  exact ⟨_, rfl, post_law (pa := p0 ++ (p1 ++ (p2 ++ (p3 ++ (p4 ++ []))))) (pv := []) hW' (fun _ _ _ => (trodAll_cons_mk (shut_bool Try.underlying4 _) trodAll_mk0))
    (trodAll_cons_mk (Below.trod laidOut (by kernel_rfl) (of_decide_eq_true (by kernel_rfl)) h0k hg.out hlt0) (trodAll_cons_mk (Below.trod laidOut (by kernel_rfl) (of_decide_eq_true (by kernel_rfl)) h1k hg.out hlt1) (trodAll_cons_mk (Below.trod laidOut (by kernel_rfl) (of_decide_eq_true (by kernel_rfl)) h2k hg.out hlt2) (trodAll_cons_mk (Below.trod laidOut (by kernel_rfl) (of_decide_eq_true (by kernel_rfl)) h3k hg.out hlt3) (trodAll_cons_mk (Below.trod laidOut (by kernel_rfl) (of_decide_eq_true (by kernel_rfl)) h4k hg.out hlt4) trodAll_mk0))))) rfl (by simp) hg⟩
theorem ViewTells_holds : Rows.ViewTellsSaid :=
  OpenClaim.holds_of_wide 3 Try.f3 rfl rfl rfl rfl rfl rfl rfl ⟨rfl, rfl, rfl, rfl, rfl⟩ rfl rfl rfl rfl rfl (by kernel_rfl) Try.func3 (by kernel_rfl)
    (of_decide_eq_true (by kernel_rfl)) (by unfold Func.isWrapper; first | (rw [if_pos (by decide +kernel)]; kernel_rfl) | (rw [if_neg (by decide +kernel)]; exact ⟨rfl, rfl⟩))
    (fun os started H enc _ => ViewTells_lifted os started H enc)
#print axioms ViewTells_holds
end Go.Proofs.Ytophpemlaecglaa
