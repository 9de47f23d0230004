/- ViewLeaf: a leaf that may be a head leads on itself, and what is no leaf is none; for every tree, number and places. -/
import Derived.Test.YtophpemlaecglaaViewLaw
namespace Go.Proofs.Ytophpemlaecglaa
open Go.RowKit Go.WideShapes Go.ChangeShapes
set_option linter.unusedVariables false
set_option linter.unusedSimpArgs false
set_option linter.unusedSectionVars false






set_option maxHeartbeats 2000000 in
theorem ViewLeaf_walk {w : World} (tA : Option Addr) (tn tc : Nat) (t : List Node) (ht : NL w tA tn tc t) (j : Nat) (hj : j < 18446744073709551616) (f : Int) (f1 : -9223372036854775808 ≤ f) (f2 : f ≤ 9223372036854775807) (i : Int) (i1 : -9223372036854775808 ≤ i) (i2 : i ≤ 9223372036854775807) :
    Calls Try.prog 8 #[.agg #[.slice tA tn tc], .int .u64 j, .int .i64 f, .int .i64 i] w fun e' w' => e' = .returned (.bool true) ∧ Ext w w' := by
  have hlen := ht.len
  have hroom := ht.row.room
  have HAW := Lib.hid (fun W => awake_any W)
  have HV := Lib.hid (fun W (k : Ext w W) => ht.ext k)
  have HM := Lib.hid (fun b (hb : Tree.mayV t = b) W (k : Ext w W) => treeMay_is tA tn tc t b hb W (ht.ext k))
  cases hm : Tree.mayV t with
  | false =>
    go_enter Try.func8, Try.ntmps8
    try simp only [List.append_eq, List.cons_append, List.nil_append]
    go_wp2_with fail
    refine (HAW.out _).mono ?_
    rintro e0 w0 ⟨rfl, hx0⟩
    have k0 : Ext w w0 := Ext.trans ((by repeat (first | assumption | exact Ext.refl _ | refine Ext.alloc ?_ _ | refine Ext.drew ?_ | refine Ext.drewN ?_ _ | refine Ext.setCell ?_ (by first | (simp; done) | omega | (simp; omega)) _ | refine Ext.trans (by assumption) ?_))) hx0
    have t0 := hx0.cell (p := ⟨w.heap.size, 0, none⟩) (v := .slice tA tn tc) (by first | (simp; done) | (simp (maxDischargeDepth := 7) [go_sem]; done))
    go_wp2_with fail
    refine (HM.out false hm _ k0).mono ?_
    rintro e1 w1 ⟨rfl, hx1⟩
    have k1 : Ext w w1 := k0.trans hx1
    replace t0 := hx1.cell t0
    go_wp2
    go_ret
    exact ⟨rfl, k1⟩
  | true =>
    have wf := wf_i64 f1 f2
    have wi := wf_i64 i1 i2
    by_cases hok : 0 ≤ i ∧ i < tn
    · obtain ⟨i0, hin⟩ := hok
      obtain ⟨i, rfl⟩ := Int.eq_ofNat_of_zero_le i0
      replace hin : i < tn := by omega
      have gin : (i : Int) < tn := by omega
      have li : i < t.length := by omega
      have HL := Lib.hid (fun W (kx : Ext w W) => vleads_may tA tn tc t hm j hj f wf W (ht.ext kx))
      have HK := Lib.hid (fun W (kx : Ext w W) => kids_any tA tn tc t i wi W (ht.ext kx))
      have HA := Lib.hid (fun b (hb : Tree.aboveV t f i = b) W (kx : Ext w W) => above_is tA tn tc t f i wf wi b hb W (ht.ext kx))
      have hKV : Tree.kidsV t (i : Int) = (Tree.kidsN t (i : Int)).map (fun k => ((k : Nat) : Int)) := by unfold Tree.kidsV; rw [Tree.isV_in hm (by omega) (by omega), if_pos rfl]
      rw [hKV] at HK
      have q1 : decide ((i : Int) < 0) = false := decide_eq_false (by omega)
      have q2 : decide (tn ≤ i) = false := decide_eq_false (by omega)
      by_cases hkn : Tree.kidsN t (i : Int) = []
      · have hld := View.lead_leaf hm (j := j) (f := f) li hkn
        have hlf : View.leafV t j f (i : Int) = (Tree.aboveV t f (i : Int) && decide (j ≤ (Tree.nd t i).just)) := by
          apply Bool.eq_iff_iff.2
          rw [View.leaf_iff hm li, hkn]
          simp
        rw [hkn] at HK
        have HLF := Lib.hid (fun q (hq : View.leafV t j f i = q) W (kx : Ext w W) => vleaf_is tA tn tc t j hj f i wf wi q hq W (ht.ext kx))
        obtain ⟨x, hjx⟩ : ∃ x, (Tree.nd t i).just = x := ⟨_, rfl⟩
        rw [hjx] at hlf
        rw [hlf] at HLF hld
        have HJX := Lib.hid hjx
        clear hlf hkn hKV hjx
        cases ha : Tree.aboveV t f (i : Int) with
        | false =>
          rw [ha, Bool.false_and] at hld HLF
          have HLI := Lib.hid hld
          replace HA := Lib.hid (fun W (kx : Ext w W) => HA.out false ha W kx)
          replace HLF := Lib.hid (fun W (kx : Ext w W) => HLF.out false rfl W kx)
          clear ha hld ht
          go_enter Try.func8, Try.ntmps8
          try simp only [List.append_eq, List.cons_append, List.nil_append]
          go_wp2_with fail
          refine (HAW.out _).mono ?_
          rintro e0 w0 ⟨rfl, hx0⟩
          have k0 : Ext w w0 := Ext.trans ((by repeat (first | assumption | exact Ext.refl _ | refine Ext.alloc ?_ _ | refine Ext.drew ?_ | refine Ext.drewN ?_ _ | refine Ext.setCell ?_ (by first | (simp; done) | omega | (simp; omega)) _ | refine Ext.trans (by assumption) ?_))) hx0
          have t0 := hx0.cell (p := ⟨w.heap.size, 0, none⟩) (v := .slice tA tn tc) (by first | (simp; done) | (simp (maxDischargeDepth := 7) [go_sem]; done))
          go_wp2_with fail
          refine (HM.out true hm _ k0).mono ?_
          rintro e1 w1 ⟨rfl, hx1⟩
          have k1 : Ext w w1 := k0.trans hx1
          replace t0 := hx1.cell t0
          clear HAW HM hm
          go_wp2_with fail
          refine (HL.out _ k1).mono ?_
          rintro e2 w2 ⟨⟨B, d, rfl, hB⟩, hx2⟩
          have k2 : Ext w w2 := k1.trans hx2
          replace t0 := hx2.cell t0
          obtain ⟨lb, lo, rfl, hcs⟩ := hB (by omega)
          have d0 := hcs i hin
          rw [HLI.out] at d0
          go_wp2_with fail
          refine (HLF.out _ k2).mono ?_
          rintro e3 w3 ⟨rfl, hx3⟩
          have k3 : Ext w w3 := k2.trans hx3
          replace t0 := hx3.cell t0
          replace d0 := hx3.cell d0
          go_wp2_with fail
          refine (HK.out _ k3).mono ?_
          rintro e4 w4 ⟨⟨v, rfl, ⟨KA, m, kd, rfl, hKi⟩⟩, hx4⟩
          have k4 : Ext w w4 := k3.trans hx4
          replace t0 := hx4.cell t0
          replace d0 := hx4.cell d0
          obtain rfl : 0 = m := hKi.len
          clear hKi hcs
          go_wp2_with fail
          refine (HA.out _ k4).mono ?_
          rintro e5 w5 ⟨rfl, hx5⟩
          go_wp2
          go_ret
          exact ⟨rfl, k4.trans hx5⟩
        | true =>
          rw [ha, Bool.true_and] at hld HLF
          replace HA := Lib.hid (fun W (kx : Ext w W) => HA.out true ha W kx)
          by_cases hx : j ≤ x
          · rw [decide_eq_true hx] at hld HLF
            have g1 : (j : Int) ≤ x := by omega
            have HLI := Lib.hid hld
            replace HLF := Lib.hid (fun W (kx : Ext w W) => HLF.out true rfl W kx)
            clear ha hld ht hx
            go_enter Try.func8, Try.ntmps8
            try simp only [List.append_eq, List.cons_append, List.nil_append]
            go_wp2_with fail
            refine (HAW.out _).mono ?_
            rintro e0 w0 ⟨rfl, hx0⟩
            have k0 : Ext w w0 := Ext.trans ((by repeat (first | assumption | exact Ext.refl _ | refine Ext.alloc ?_ _ | refine Ext.drew ?_ | refine Ext.drewN ?_ _ | refine Ext.setCell ?_ (by first | (simp; done) | omega | (simp; omega)) _ | refine Ext.trans (by assumption) ?_))) hx0
            have t0 := hx0.cell (p := ⟨w.heap.size, 0, none⟩) (v := .slice tA tn tc) (by first | (simp; done) | (simp (maxDischargeDepth := 7) [go_sem]; done))
            go_wp2_with fail
            refine (HM.out true hm _ k0).mono ?_
            rintro e1 w1 ⟨rfl, hx1⟩
            have k1 : Ext w w1 := k0.trans hx1
            replace t0 := hx1.cell t0
            clear HAW HM hm
            go_wp2_with fail
            refine (HL.out _ k1).mono ?_
            rintro e2 w2 ⟨⟨B, d, rfl, hB⟩, hx2⟩
            have k2 : Ext w w2 := k1.trans hx2
            replace t0 := hx2.cell t0
            obtain ⟨lb, lo, rfl, hcs⟩ := hB (by omega)
            have d0 := hcs i hin
            rw [HLI.out] at d0
            go_wp2_with fail
            refine (HLF.out _ k2).mono ?_
            rintro e3 w3 ⟨rfl, hx3⟩
            have k3 : Ext w w3 := k2.trans hx3
            replace t0 := hx3.cell t0
            replace d0 := hx3.cell d0
            go_wp2_with fail
            refine (HK.out _ k3).mono ?_
            rintro e4 w4 ⟨⟨v, rfl, ⟨KA, m, kd, rfl, hKi⟩⟩, hx4⟩
            have k4 : Ext w w4 := k3.trans hx4
            replace t0 := hx4.cell t0
            replace d0 := hx4.cell d0
            obtain rfl : 0 = m := hKi.len
            clear hKi hcs
            go_wp2_with fail
            refine (HA.out _ k4).mono ?_
            rintro e5 w5 ⟨rfl, hx5⟩
            have k5 := k4.trans hx5
            replace t0 := hx5.cell t0
            replace d0 := hx5.cell d0
            obtain ⟨b, off, rfl, hr, hokx⟩ := (HV.out _ k5).at' hin
            have dj := rangeAt_head hr (Node.at34 hokx)
            change World.cell? _ _ = some (.int .u64 (Tree.nd t i).just) at dj
            rw [HJX.out] at dj
            clear hr hokx
            go_wp2
            go_ret
            exact ⟨rfl, k5⟩
          · rw [decide_eq_false hx] at hld HLF
            have g1 : decide ((j : Int) ≤ x) = false := decide_eq_false (by omega)
            have g2 : decide (j ≤ x) = false := decide_eq_false (by omega)
            have HLI := Lib.hid hld
            replace HLF := Lib.hid (fun W (kx : Ext w W) => HLF.out false rfl W kx)
            clear ha hld ht hx
            go_enter Try.func8, Try.ntmps8
            try simp only [List.append_eq, List.cons_append, List.nil_append]
            go_wp2_with fail
            refine (HAW.out _).mono ?_
            rintro e0 w0 ⟨rfl, hx0⟩
            have k0 : Ext w w0 := Ext.trans ((by repeat (first | assumption | exact Ext.refl _ | refine Ext.alloc ?_ _ | refine Ext.drew ?_ | refine Ext.drewN ?_ _ | refine Ext.setCell ?_ (by first | (simp; done) | omega | (simp; omega)) _ | refine Ext.trans (by assumption) ?_))) hx0
            have t0 := hx0.cell (p := ⟨w.heap.size, 0, none⟩) (v := .slice tA tn tc) (by first | (simp; done) | (simp (maxDischargeDepth := 7) [go_sem]; done))
            go_wp2_with fail
            refine (HM.out true hm _ k0).mono ?_
            rintro e1 w1 ⟨rfl, hx1⟩
            have k1 : Ext w w1 := k0.trans hx1
            replace t0 := hx1.cell t0
            clear HAW HM hm
            go_wp2_with fail
            refine (HL.out _ k1).mono ?_
            rintro e2 w2 ⟨⟨B, d, rfl, hB⟩, hx2⟩
            have k2 : Ext w w2 := k1.trans hx2
            replace t0 := hx2.cell t0
            obtain ⟨lb, lo, rfl, hcs⟩ := hB (by omega)
            have d0 := hcs i hin
            rw [HLI.out] at d0
            go_wp2_with fail
            refine (HLF.out _ k2).mono ?_
            rintro e3 w3 ⟨rfl, hx3⟩
            have k3 : Ext w w3 := k2.trans hx3
            replace t0 := hx3.cell t0
            replace d0 := hx3.cell d0
            go_wp2_with fail
            refine (HK.out _ k3).mono ?_
            rintro e4 w4 ⟨⟨v, rfl, ⟨KA, m, kd, rfl, hKi⟩⟩, hx4⟩
            have k4 : Ext w w4 := k3.trans hx4
            replace t0 := hx4.cell t0
            replace d0 := hx4.cell d0
            obtain rfl : 0 = m := hKi.len
            clear hKi hcs
            go_wp2_with fail
            refine (HA.out _ k4).mono ?_
            rintro e5 w5 ⟨rfl, hx5⟩
            have k5 := k4.trans hx5
            replace t0 := hx5.cell t0
            replace d0 := hx5.cell d0
            obtain ⟨b, off, rfl, hr, hokx⟩ := (HV.out _ k5).at' hin
            have dj := rangeAt_head hr (Node.at34 hokx)
            change World.cell? _ _ = some (.int .u64 (Tree.nd t i).just) at dj
            rw [HJX.out] at dj
            clear hr hokx
            go_wp2
            go_ret
            exact ⟨rfl, k5⟩
      · have hlf : View.leafV t j f (i : Int) = false := by
          apply Bool.eq_false_iff.2
          intro h
          exact hkn ((View.leaf_iff hm li).1 h).2.1
        have HLF := Lib.hid (fun W (kx : Ext w W) => vleaf_is tA tn tc t j hj f i wf wi false hlf W (ht.ext kx))
        obtain ⟨q, hq⟩ : ∃ q, View.leadB t j f i = q := ⟨_, rfl⟩
        have HLI := Lib.hid hq
        have hpos : 0 < (Tree.kidsN t (i : Int)).length := List.length_pos_iff.2 hkn
        have HPOS := Lib.hid hpos
        clear hlf hkn hKV hpos hq
        go_enter Try.func8, Try.ntmps8
        try simp only [List.append_eq, List.cons_append, List.nil_append]
        go_wp2_with fail
        refine (HAW.out _).mono ?_
        rintro e0 w0 ⟨rfl, hx0⟩
        have k0 : Ext w w0 := Ext.trans ((by repeat (first | assumption | exact Ext.refl _ | refine Ext.alloc ?_ _ | refine Ext.drew ?_ | refine Ext.drewN ?_ _ | refine Ext.setCell ?_ (by first | (simp; done) | omega | (simp; omega)) _ | refine Ext.trans (by assumption) ?_))) hx0
        have t0 := hx0.cell (p := ⟨w.heap.size, 0, none⟩) (v := .slice tA tn tc) (by first | (simp; done) | (simp (maxDischargeDepth := 7) [go_sem]; done))
        go_wp2_with fail
        refine (HM.out true hm _ k0).mono ?_
        rintro e1 w1 ⟨rfl, hx1⟩
        have k1 : Ext w w1 := k0.trans hx1
        replace t0 := hx1.cell t0
        clear HAW HM hm
        go_wp2_with fail
        refine (HL.out _ k1).mono ?_
        rintro e2 w2 ⟨⟨B, d, rfl, hB⟩, hx2⟩
        have k2 : Ext w w2 := k1.trans hx2
        replace t0 := hx2.cell t0
        obtain ⟨lb, lo, rfl, hcs⟩ := hB (by omega)
        have d0 := hcs i hin
        rw [HLI.out] at d0
        go_wp2_with fail
        refine (HLF.out _ k2).mono ?_
        rintro e3 w3 ⟨rfl, hx3⟩
        have k3 : Ext w w3 := k2.trans hx3
        replace t0 := hx3.cell t0
        replace d0 := hx3.cell d0
        go_wp2_with fail
        refine (HK.out _ k3).mono ?_
        rintro e4 w4 ⟨⟨v, rfl, ⟨KA, m, kd, rfl, hKi⟩⟩, hx4⟩
        have k4 : Ext w w4 := k3.trans hx4
        replace t0 := hx4.cell t0
        replace d0 := hx4.cell d0
        have hmp : 0 < m := by have := hKi.len; rw [List.length_map] at this; have := HPOS.out; omega
        have gm : (0 : Int) < m := by omega
        clear hKi hcs
        go_wp2
        go_ret
        exact ⟨rfl, k4⟩
    · go_enter Try.func8, Try.ntmps8
      try simp only [List.append_eq, List.cons_append, List.nil_append]
      go_wp2_with fail
      refine (HAW.out _).mono ?_
      rintro e0 w0 ⟨rfl, hx0⟩
      have k0 : Ext w w0 := Ext.trans ((by repeat (first | assumption | exact Ext.refl _ | refine Ext.alloc ?_ _ | refine Ext.drew ?_ | refine Ext.drewN ?_ _ | refine Ext.setCell ?_ (by first | (simp; done) | omega | (simp; omega)) _ | refine Ext.trans (by assumption) ?_))) hx0
      have t0 := hx0.cell (p := ⟨w.heap.size, 0, none⟩) (v := .slice tA tn tc) (by first | (simp; done) | (simp (maxDischargeDepth := 7) [go_sem]; done))
      go_wp2_with fail
      refine (HM.out true hm _ k0).mono ?_
      rintro e1 w1 ⟨rfl, hx1⟩
      have k1 : Ext w w1 := k0.trans hx1
      replace t0 := hx1.cell t0
      clear HAW HM HV
      go_wp2_with fail
      all_goals (first | (go_ret; exact ⟨rfl, k1⟩) | (exfalso; apply hok; refine ⟨?_, ?_⟩ <;> omega))
set_option maxRecDepth 100000 in
theorem ViewLeaf_lifted (os : Os) (started : os.Started) (H : Type) (enc : TypeId × Value → H) :
    ReturnsInHanded {} Try.checked os 8 .any (Rows.viewLeafSpec.pre6 enc Try.prog Try.f8 Rows.viewLeafRow.domain false) (Rows.viewLeafSpec.post enc Try.prog Try.f8 false true false false) := by
  refine returnsInHanded_of_change_sized (C := Try.checked) own started (by kernel_rfl) Try.func8
    (ChangeSpec.witness6 (enc := enc) (C := Try.checked) false ⟨#[], #[.agg #[.slice none 0 0], .int .u64 0, .int .i64 0, .int .i64 0], []⟩ 8 (by kernel_rfl) (by kernel_rfl) (by kernel_rfl) (by kernel_rfl)) ?_
  intro W base args ds gs before hval0 hW _hcnd hsz0 _
  have hval : ∀ (j : Nat) t v, Try.f8.params[j]? = some t → args[j]? = some v → Value.okWide Try.prog W .any base t v := hval0
  have hsz : (DataW.weightsEach Try.prog (Try.f8.params.toList ++ Rows.viewLeafSpec.plain.varTypes Try.prog) (ds ++ gs)).all (· ≤ reachBytes) = true := hsz0
  have hW' := hW
  obtain ⟨p, q, hA0, hV, rfl, hfz, hnd⟩ := hW
  have hA : DataW.TrodAll enc Try.prog W 0 (fun _ => true) true Try.f8.params.toList args.toList ds p := hA0
  rw [Try.params8] at hA hval hsz
  obtain ⟨v0, vs0, d0, ds0, p0, q0, hargs, rfl, rfl, h0, r0⟩ := trodAll_cons hA
  obtain ⟨v1, vs1, d1, ds1, p1, q1, rfl, rfl, rfl, h1, r1⟩ := trodAll_cons r0
  obtain ⟨v2, vs2, d2, ds2, p2, q2, rfl, rfl, rfl, h2, r2⟩ := trodAll_cons r1
  obtain ⟨v3, vs3, d3, ds3, p3, q3, rfl, rfl, rfl, h3, r3⟩ := trodAll_cons r2
  obtain ⟨rfl, rfl, rfl⟩ := trodAll_nil r3
  obtain rfl : args = #[v0, v1, v2, v3] := by cases args; simp_all
  obtain ⟨rfl, rfl⟩ := trodVars_none hV
  have h0k := h0
  have h1k := h1
  have h2k := h2
  have h3k := h3
  have hlt0 : ∀ x ∈ p0, x.block < W.heap.size := fun x hx => by have := hW'.lt x (by simp [hx]); simpa using this
  have hlt1 : ∀ x ∈ p1, x.block < W.heap.size := fun x hx => by have := hW'.lt x (by simp [hx]); simpa using this
  have hlt2 : ∀ x ∈ p2, x.block < W.heap.size := fun x hx => by have := hW'.lt x (by simp [hx]); simpa using this
  have hlt3 : ∀ x ∈ p3, x.block < W.heap.size := fun x hx => by have := hW'.lt x (by simp [hx]); simpa using this
  obtain ⟨tA, tn, tc, t, rfl, ht⟩ := open_tree (hval 0 24 v0 rfl rfl) h0 hsz (j := 0) rfl rfl
  obtain ⟨j, rfl, hj⟩ := open_U64 Try.underlying25 (hval 1 25 v1 rfl rfl) h1
  obtain ⟨f, rfl, hf1, hf2⟩ := open_I64 Try.underlying3 (hval 2 3 v2 rfl rfl) h2
  obtain ⟨i, rfl, hi1, hi2⟩ := open_I64 Try.underlying3 (hval 3 3 v3 rfl rfl) h3
  clear hA0 hval0
  simp only [List.append_nil] at hW'
  refine (ViewLeaf_walk tA tn tc t ht j hj f hf1 hf2 i hi1 hi2 (w := W)).mono fun e W' ⟨he, hg⟩ => ?_
  subst he
  exact ⟨_, rfl, post_law (pa := p0 ++ (p1 ++ (p2 ++ (p3 ++ [])))) (pv := []) hW' (fun _ _ _ => (trodAll_cons_mk (shut_bool Try.underlying4 _) trodAll_mk0))
    (trodAll_cons_mk (Below.trod laidOut (by kernel_rfl) (of_decide_eq_true (by kernel_rfl)) h0k hg.out hlt0) (trodAll_cons_mk (Below.trod laidOut (by kernel_rfl) (of_decide_eq_true (by kernel_rfl)) h1k hg.out hlt1) (trodAll_cons_mk (Below.trod laidOut (by kernel_rfl) (of_decide_eq_true (by kernel_rfl)) h2k hg.out hlt2) (trodAll_cons_mk (Below.trod laidOut (by kernel_rfl) (of_decide_eq_true (by kernel_rfl)) h3k hg.out hlt3) trodAll_mk0)))) rfl (by simp) hg⟩
theorem ViewLeaf_holds : Rows.ViewLeafSaid :=
  OpenClaim.holds_of_wide 8 Try.f8 rfl rfl rfl rfl rfl rfl rfl ⟨rfl, rfl, rfl, rfl, rfl⟩ rfl rfl rfl rfl rfl (by kernel_rfl) Try.func8 (by kernel_rfl)
    (of_decide_eq_true (by kernel_rfl)) (by unfold Func.isWrapper; first | (rw [if_pos (by decide +kernel)]; kernel_rfl) | (rw [if_neg (by decide +kernel)]; exact ⟨rfl, rfl⟩))
    (fun os started H enc _ => ViewLeaf_lifted os started H enc)
#print axioms ViewLeaf_holds
end Go.Proofs.Ytophpemlaecglaa
