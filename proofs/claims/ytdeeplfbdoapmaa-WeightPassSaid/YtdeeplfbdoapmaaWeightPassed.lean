/- WeightPass: from the sums of what was, by what came, and what went, one comes to the sums of what is; for every tree and all numbers. -/
import Derived.Test.YtdeeplfbdoapmaaWeightAdds
namespace Go.Proofs.Ytdeeplfbdoapmaa
open Go.RowKit Go.WideShapes Go.ChangeShapes
set_option linter.unusedVariables false
set_option linter.unusedSimpArgs false












namespace Weight
theorem pass_sums {T : List Node} (hm : Tree.mayV T = true) (hn : T.length ≤ 20) {lo lp lz li : List Int} (ho : lo.length = T.length) (hp : lp.length = T.length) (hz : lz.length = T.length) (hi : li.length = T.length)
    (h : ∀ k, k < T.length → at' lo k < 1125899906842624 ∧ at' lp k < 1125899906842624 ∧ at' lz k ≤ at' lo k + at' lp k ∧ at' li k = at' lo k + at' lp k - at' lz k) :
    subV T lo = some (listOf T.length (S T (at' lo))) ∧ subV T li = some (listOf T.length (S T (at' li))) ∧ passV T (listOf T.length (S T (at' lo))) lp lz = some (listOf T.length (S T (at' li))) := by
  have eo := sub_small hm hn ho (fun k hk => by have := h k hk; omega)
  have ei := sub_small hm hn hi (fun k hk => by have := h k hk; omega)
  have ep := sub_small hm hn hp (fun k hk => by have := h k hk; omega)
  have ez := sub_small hm hn hz (fun k hk => by have := h k hk; omega)
  have ti := total_lt hn (l := li) (fun k hk => by have := h k hk; omega)
  have hS : ∀ x, S T (at' li) x + S T (at' lz) x = S T (at' lo) x + S T (at' lp) x := fun x => by
    rw [← S_add, ← S_add]
    exact S_congr (fun k hk => by have := h k hk; omega) x
  refine ⟨eo, ei, passV_some.2 ⟨_, _, ep, ez, listOf_len _ _, fun i hi => ?_, listOf_congr (fun k hk => ?_)⟩⟩
  · rw [at_listOf hi, at_listOf hi, at_listOf hi]
    have h1 := hS i
    have h2 := S_le T (at' li) i
    exact decide_eq_true ⟨by omega, by omega⟩
  · rw [at_listOf hk, at_listOf hk, at_listOf hk]
    have h1 := hS k
    omega
end Weight
set_option maxRecDepth 100000 in
set_option maxHeartbeats 2000000 in
theorem WeightPass_walk {w : World} (tA : Option Addr) (tn tc : Nat) (t : List Node) (ht : NL w tA tn tc t) (oA : Option Addr) (on oc : Nat) (lo : List Int) (ho : Ints w .u64 oA on oc lo) (pA : Option Addr) (pn pc : Nat) (lp : List Int) (hp : Ints w .u64 pA pn pc lp) (zA : Option Addr) (zn zc : Nat) (lz : List Int) (hz : Ints w .u64 zA zn zc lz) :
    Calls Try.prog 4 #[.agg #[.slice tA tn tc], .slice oA on oc, .slice pA pn pc, .slice zA zn zc] w fun e' w' => e' = .returned (.bool true) ∧ Ext w w' := by
  have hlen := ht.len
  have hroom := ht.row.room
  have hol := ho.len
  have hpl := hp.len
  have hzl := hz.len
  have HAW := Lib.hid (fun W => awake_any W)
  have HM := Lib.hid (fun b (hb : Tree.mayV t = b) W (k : Ext w W) => treeMay_is tA tn tc t b hb W (ht.ext k))
  cases hm : Tree.mayV t with
  | false =>
    clear hol hpl hzl
    go_enter Try.func4, Try.ntmps4
    try simp only [List.append_eq, List.cons_append, List.nil_append]
    go_wp2_with fail
    refine (HAW.out _).mono ?_
    rintro e0 w0 ⟨rfl, hx0⟩
    have k0 : Ext w w0 := Ext.trans ((by repeat (first | assumption | exact Ext.refl _ | refine Ext.alloc ?_ _ | refine Ext.drew ?_ | refine Ext.drewN ?_ _ | refine Ext.setCell ?_ (by first | (simp; done) | omega | (simp; omega)) _ | refine Ext.trans (by assumption) ?_))) hx0
    have t0 := hx0.cell (p := ⟨w.heap.size, 0, none⟩) (v := .slice tA tn tc) (by first | (simp; done) | (simp (maxDischargeDepth := 7) [go_sem]; done))
    go_wp2_with fail
    refine (HM.out false hm _ k0).mono ?_
    rintro e1 w1 ⟨rfl, hx1⟩
    have k1 : Ext w w1 := k0.trans hx1
    replace t0 := hx1.cell t0
    go_wp2
    go_ret
    exact ⟨rfl, k1⟩
  | true =>
    by_cases h1 : on = tn
    · obtain rfl : tn = on := h1.symm
      by_cases h2 : pn = tn
      · obtain rfl : tn = pn := h2.symm
        by_cases h3 : zn = tn
        · obtain rfl : tn = zn := h3.symm
          clear h1 h2 h3
          have h12 := Tree.len_le hm
          have CO := Lib.hid (fun W (k : Ext w W) x (hx : x < tn) => (by obtain ⟨b, off, e, hc⟩ := ho.cells (by omega); have h := k.cell (hc x hx); rw [(ho.nat64 x).1] at h; exact ⟨b, off, e, h, (ho.nat64 x).2⟩ : ∃ b off, oA = some ⟨b, off, none⟩ ∧ W.cell? ⟨b, off + x, none⟩ = some (.int .u64 (Weight.at' lo x : Nat)) ∧ Weight.at' lo x < 18446744073709551616))
          have CP := Lib.hid (fun W (k : Ext w W) x (hx : x < tn) => (by obtain ⟨b, off, e, hc⟩ := hp.cells (by omega); have h := k.cell (hc x hx); rw [(hp.nat64 x).1] at h; exact ⟨b, off, e, h, (hp.nat64 x).2⟩ : ∃ b off, pA = some ⟨b, off, none⟩ ∧ W.cell? ⟨b, off + x, none⟩ = some (.int .u64 (Weight.at' lp x : Nat)) ∧ Weight.at' lp x < 18446744073709551616))
          have CZ := Lib.hid (fun W (k : Ext w W) x (hx : x < tn) => (by obtain ⟨b, off, e, hc⟩ := hz.cells (by omega); have h := k.cell (hc x hx); rw [(hz.nat64 x).1] at h; exact ⟨b, off, e, h, (hz.nat64 x).2⟩ : ∃ b off, zA = some ⟨b, off, none⟩ ∧ W.cell? ⟨b, off + x, none⟩ = some (.int .u64 (Weight.at' lz x : Nat)) ∧ Weight.at' lz x < 18446744073709551616))
          have HO := Lib.hid ho
          have HP := Lib.hid hp
          have HZ := Lib.hid hz
          have HT := Lib.hid ht
          have HLO := Lib.hid hol
          have HLP := Lib.hid hpl
          have HLZ := Lib.hid hzl
          have HLT := Lib.hid hlen
          have H12 := Lib.hid h12
          clear ho hp hz ht hol hpl hzl hlen h12
          go_enter Try.func4, Try.ntmps4
          try simp only [List.append_eq, List.cons_append, List.nil_append]
          go_wp2_with fail
          refine (HAW.out _).mono ?_
          rintro e0 w0 ⟨rfl, hx0⟩
          have k0 : Ext w w0 := Ext.trans ((by repeat (first | assumption | exact Ext.refl _ | refine Ext.alloc ?_ _ | refine Ext.drew ?_ | refine Ext.drewN ?_ _ | refine Ext.setCell ?_ (by first | (simp; done) | omega | (simp; omega)) _ | refine Ext.trans (by assumption) ?_))) hx0
          have t0 := hx0.cell (p := ⟨w.heap.size, 0, none⟩) (v := .slice tA tn tc) (by first | (simp; done) | (simp (maxDischargeDepth := 7) [go_sem]; done))
          go_wp2_with fail
          refine (HM.out true hm _ k0).mono ?_
          rintro e1 w1 ⟨rfl, hx1⟩
          have k1 : Ext w w1 := k0.trans hx1
          replace t0 := hx1.cell t0
          have HMA := Lib.hid hm
          clear HAW HM hm
          have T0 := Lib.hid t0
          go_wp2
          clear t0
          go_loopw [10, 11] (fun v' k' wr => ∃ j : Nat, j ≤ tn ∧ k' = .int .i64 j ∧ wr.ownsRow w1.heap.size 33 1 v' j ((Weight.listOf j (fun k => Weight.at' lo k + Weight.at' lp k - Weight.at' lz k)).map (Value.int .u64)) ∧ (∀ k, k < j → Weight.at' lo k < 1125899906842624 ∧ Weight.at' lp k < 1125899906842624 ∧ Weight.at' lz k ≤ Weight.at' lo k + Weight.at' lp k) ∧ Ext w1 wr) (fun _ k' _ => tn - (intOf k').toNat)
          case atStart => exact ⟨0, Nat.zero_le _, rfl, own_new _ _ _ _, fun k hk => absurd hk (Nat.not_lt_zero _), Ext.refl _⟩
          case round =>
            obtain ⟨j, hj, rfl, hown, hsm, hxr⟩ := hrel
            by_cases hlt : j < tn
            · obtain ⟨ba, oa, rfl, d0, d1⟩ := CO.out _ (k1.trans hxr) j hlt
              obtain ⟨bb, ob, rfl, e0, e1⟩ := CP.out _ (k1.trans hxr) j hlt
              obtain ⟨bd, od, rfl, f0, f1⟩ := CZ.out _ (k1.trans hxr) j hlt
              have la0 : w.cell? ⟨ba, oa + j, none⟩ = some (.int .u64 (Weight.at' lo j : Nat)) := by obtain ⟨b, o, e, h, _⟩ := CO.out _ (Ext.refl _) j hlt; cases e; exact h
              have lb0 : w.cell? ⟨bb, ob + j, none⟩ = some (.int .u64 (Weight.at' lp j : Nat)) := by obtain ⟨b, o, e, h, _⟩ := CP.out _ (Ext.refl _) j hlt; cases e; exact h
              have lz0 : w.cell? ⟨bd, od + j, none⟩ = some (.int .u64 (Weight.at' lz j : Nat)) := by obtain ⟨b, o, e, h, _⟩ := CZ.out _ (Ext.refl _) j hlt; cases e; exact h
              have hna := own_ne hown (Nat.lt_of_lt_of_le (lt_of_cell la0) k1.size)
              have hnb := own_ne hown (Nat.lt_of_lt_of_le (lt_of_cell lb0) k1.size)
              have hnz := own_ne hown (Nat.lt_of_lt_of_le (lt_of_cell lz0) k1.size)
              clear la0 lb0 lz0
              have gj : (j : Int) < tn := by omega
              have hls := Weight.listOf_succ j (fun k => Weight.at' lo k + Weight.at' lp k - Weight.at' lz k)
              have HLS := Lib.hid hls
              clear hls
              obtain ⟨x, hx⟩ : ∃ x, Weight.at' lo j = x := ⟨_, rfl⟩
              obtain ⟨y, hy⟩ : ∃ y, Weight.at' lp j = y := ⟨_, rfl⟩
              obtain ⟨z, hz⟩ : ∃ z, Weight.at' lz j = z := ⟨_, rfl⟩
              rw [hx] at d0 d1
              rw [hy] at e0 e1
              rw [hz] at f0 f1
              have HX := Lib.hid hx
              have HY := Lib.hid hy
              have HZZ := Lib.hid hz
              have HSM := Lib.hid hsm
              clear hx hy hz hsm
              by_cases hx50 : 1125899906842624 ≤ x
              · have g1 : (1125899906842624 : Int) ≤ x := by omega
                clear hx50 d1 e1 f1
                go_wp2
                refine wp_region_quiet_lit (by kernel_rfl) (by kernel_rfl) ?_
                repeat (first | go_big_quiet_skip | (go_big_quiet_want; first | ((fail); (try simp only [Act.put, List.setIfInBounds_toArray, List.set_cons_zero, List.set_cons_succ]); go_big_quiet_on) | (go_big_quiet_op; first | go_big_quiet_on | go_big_quiet_call (fail))))
                refine wpQuiet_nil ?_
                intro _ hw'
                obtain ⟨nq', hw''⟩ := hw'
                subst hw''
                go_wp2
                go_ret
                exact ⟨rfl, k1.trans (hxr.drewN _)⟩
              have g1 : decide ((1125899906842624 : Int) ≤ x) = false := decide_eq_false (by omega)
              by_cases hy50 : 1125899906842624 ≤ y
              · have g2 : (1125899906842624 : Int) ≤ y := by omega
                clear hy50 hx50 d1 e1 f1
                go_wp2
                refine wp_region_quiet_lit (by kernel_rfl) (by kernel_rfl) ?_
                repeat (first | go_big_quiet_skip | (go_big_quiet_want; first | ((fail); (try simp only [Act.put, List.setIfInBounds_toArray, List.set_cons_zero, List.set_cons_succ]); go_big_quiet_on) | (go_big_quiet_op; first | go_big_quiet_on | go_big_quiet_call (fail))))
                refine wpQuiet_nil ?_
                intro _ hw'
                obtain ⟨nq', hw''⟩ := hw'
                subst hw''
                go_wp2
                go_ret
                exact ⟨rfl, k1.trans (hxr.drewN _)⟩
              have g2 : decide ((1125899906842624 : Int) ≤ y) = false := decide_eq_false (by omega)
              have sxy : IntKind.u64.wrap ((x : Int) + y) = (x : Int) + y := by simp [IntKind.wrap, IntKind.signed, IntKind.bits]; omega
              by_cases hz50 : x + y < z
              · have g3 : (x : Int) + y < z := by omega
                clear hz50 hy50 hx50 d1 e1 f1
                go_wp2
                refine wp_region_quiet_lit (by kernel_rfl) (by kernel_rfl) ?_
                repeat (first | go_big_quiet_skip | (go_big_quiet_want; first | ((fail); (try simp only [Act.put, List.setIfInBounds_toArray, List.set_cons_zero, List.set_cons_succ]); go_big_quiet_on) | (go_big_quiet_op; first | go_big_quiet_on | go_big_quiet_call (fail))))
                refine wpQuiet_nil ?_
                intro _ hw'
                obtain ⟨nq', hw''⟩ := hw'
                subst hw''
                go_wp2
                go_ret
                exact ⟨rfl, k1.trans (hxr.drewN _)⟩
              have g3 : decide ((x : Int) + y < z) = false := decide_eq_false (by omega)
              have sxyz : IntKind.u64.wrap ((x : Int) + y - z) = (x : Int) + y - z := by simp [IntKind.wrap, IntKind.signed, IntKind.bits]; omega
              have HX5 := Lib.hid hx50
              have HY5 := Lib.hid hy50
              have HZ5 := Lib.hid hz50
              clear hx50 hy50 hz50
              go_wp2
              refine wp_region_quiet_lit (by kernel_rfl) (by kernel_rfl) ?_
              repeat (first | go_big_quiet_skip | (go_big_quiet_want; first | ((fail); (try simp only [Act.put, List.setIfInBounds_toArray, List.set_cons_zero, List.set_cons_succ]); go_big_quiet_on) | (go_big_quiet_op; first | go_big_quiet_on | go_big_quiet_call (fail))))
              refine wpQuiet_nil ?_
              intro _ hw'
              obtain ⟨nq', hw''⟩ := hw'
              subst hw''
              go_wp2_with fail
              have xq : Ext wr (wr.drewN nq') := (Ext.refl wr).drewN nq'
              replace hxr := hxr.trans xq
              replace d0 := xq.cell d0
              replace e0 := xq.cell e0
              replace f0 := xq.cell f0
              replace hown := own_ext hown xq
              clear xq
              generalize wr.drewN nq' = wq at *
              go_wp2_with fail
              go_region_held3 (fun w' => w'.cell? ⟨ba, oa + j, none⟩ = some (.int .u64 x) ∧ w'.cell? ⟨bb, ob + j, none⟩ = some (.int .u64 y) ∧ w'.cell? ⟨bd, od + j, none⟩ = some (.int .u64 z)) (first | go_keep | exact ⟨hgrow.cell (((Ext.refl _).alloc _).drew.cell d0) hna, hgrow.cell (((Ext.refl _).alloc _).drew.cell e0) hnb, hgrow.cell (((Ext.refl _).alloc _).drew.cell f0) hnz⟩) ((refine step_app rowU64 (by rfl) _ _ (by rfl) w1.heap.size _ j ((Weight.listOf j (fun k => Weight.at' lo k + Weight.at' lp k - Weight.at' lz k)).map (Value.int .u64)) (by rfl) (hown.alloc _).drew (some ⟨_, 0, none⟩) 1 1 [.int .u64 ((x : Int) + y - z)] (by rfl) ((src_at (by rfl) (by rfl)).ext (Ext.refl _).drew) (by omega) (by have := hxr.size; simp; omega) ?_; intro v2 wa hown2 hgrow hat))
              have R1 : wa.ownsRow w1.heap.size 33 1 v2 (j + 1) ((Weight.listOf (j + 1) (fun k => Weight.at' lo k + Weight.at' lp k - Weight.at' lz k)).map (Value.int .u64)) := by
                rw [HLS.out, List.map_append]
                have hz5 := HZ5.out
                simp only [List.map_cons, List.map_nil, HX.out, HY.out, HZZ.out]
                rw [show ((x + y - z : Nat) : Int) = (x : Int) + y - z by omega]
                exact hown2
              have R2 : Ext w1 wa := ((hxr.alloc _).drew).grown hgrow (own_from hown)
              have R3 : ∀ k, k < j + 1 → Weight.at' lo k < 1125899906842624 ∧ Weight.at' lp k < 1125899906842624 ∧ Weight.at' lz k ≤ Weight.at' lo k + Weight.at' lp k := fun k hk => by
                rcases Nat.lt_succ_iff_lt_or_eq.1 hk with h | rfl
                · exact HSM.out k h
                · rw [HX.out, HY.out, HZZ.out]; have := HX5.out; have := HY5.out; have := HZ5.out; omega
              have HR3 := Lib.hid R3
              clear R3 hown2 hgrow hat hown hna hnb hnz d0 e0 f0 sxy sxyz g1 g2 g3
              go_wp2
              go_roundw
              case rel => exact ⟨j + 1, by omega, by go_num, R1, HR3.out, R2⟩
              case measure => simp [intOf]; omega
            · obtain rfl : tn = j := by omega
              obtain ⟨li, hli⟩ : ∃ li, Weight.listOf tn (fun k => Weight.at' lo k + Weight.at' lp k - Weight.at' lz k) = li := ⟨_, rfl⟩
              have hai : ∀ k, k < tn → Weight.at' li k = Weight.at' lo k + Weight.at' lp k - Weight.at' lz k := fun k hk => by rw [← hli, Weight.at_listOf hk]
              have hll : li.length = t.length := by rw [← hli, Weight.listOf_len]; exact HLT.out.symm
              have hwf : ∀ x ∈ li, (Lit.int .u64 x).wf = true := by
                rw [← hli]; exact Weight.listOf_wf (fun k hk => by have := hsm k hk; omega)
              rw [hli] at hown
              obtain ⟨VA, vn, vc, rfl, hV⟩ := isInts_own hown (by omega) hwf
              have hcl := hV.len
              have kr := k1.trans hxr
              have tt := hxr.cell T0.out
              have hlt' := HLT.out
              obtain ⟨eo, ei, ep⟩ := Weight.pass_sums HMA.out (by have := H12.out; omega) (lo := lo) (lp := lp) (lz := lz) (li := li) (by rw [HLO.out, HLT.out]) (by rw [HLP.out, HLT.out]) (by rw [HLZ.out, HLT.out]) hll (fun k hk => by have h1 := hsm k (by omega); have h2 := hai k (by omega); exact ⟨h1.1, h1.2.1, h1.2.2, h2⟩)
              generalize Weight.listOf t.length (Weight.S t (Weight.at' lo)) = ro at *
              generalize Weight.listOf t.length (Weight.S t (Weight.at' li)) = ri at *
              have HEO := Lib.hid eo
              have HEI := Lib.hid ei
              have HEP := Lib.hid ep
              clear eo ei ep hsm hown hai hwf hli hll hcl hlt'
              go_wp2_with fail
              refine (sub_is tA tn tc t _ _ _ lo true ro (by rw [HEO.out]; rfl) (by rw [HEO.out]; rfl) _ (HT.out.ext kr) (HO.out.ext kr)).mono ?_
              rintro e w2 ⟨⟨v, rfl, ⟨A2, n2, c2, rfl, h2⟩⟩, hx2⟩
              have k2 : Ext w w2 := Ext.trans kr hx2
              replace tt := hx2.cell tt
              go_wp2_with fail
              refine (sub_is tA tn tc t _ _ _ li true ri (by rw [HEI.out]; rfl) (by rw [HEI.out]; rfl) _ (HT.out.ext k2) (hV.ext hx2)).mono ?_
              rintro e w3 ⟨⟨v, rfl, ⟨A3, n3, c3, rfl, h3⟩⟩, hx3⟩
              have k3 : Ext w w3 := Ext.trans k2 hx3
              replace tt := hx3.cell tt
              go_wp2_with fail
              refine (pass_is tA tn tc t _ _ _ _ _ _ _ _ _ _ _ _ true ri (by rw [HEP.out]; rfl) (by rw [HEP.out]; rfl) _ (HT.out.ext k3) (h2.ext hx3) (HP.out.ext k3) (HZ.out.ext k3)).mono ?_
              rintro e w4 ⟨⟨v, rfl, ⟨A4, n4, c4, rfl, h4⟩⟩, hx4⟩
              have k4 : Ext w w4 := Ext.trans k3 hx4
              go_wp2_with fail
              refine (rsame_is _ _ _ _ _ _ ri ri true (decide_eq_true rfl) _ h4 (h3.ext hx4)).mono ?_
              rintro e w5 ⟨rfl, hx5⟩
              go_wp2
              go_ret
              exact ⟨rfl, k4.trans hx5⟩
        · have g1 : ((zn : Int) != tn) = true := by simp; omega
          have g2 : ¬ (zn : Int) = tn := by omega
          clear hol hpl hzl h1 h2
          go_enter Try.func4, Try.ntmps4
          try simp only [List.append_eq, List.cons_append, List.nil_append]
          go_wp2_with fail
          refine (HAW.out _).mono ?_
          rintro e0 w0 ⟨rfl, hx0⟩
          have k0 : Ext w w0 := Ext.trans ((by repeat (first | assumption | exact Ext.refl _ | refine Ext.alloc ?_ _ | refine Ext.drew ?_ | refine Ext.drewN ?_ _ | refine Ext.setCell ?_ (by first | (simp; done) | omega | (simp; omega)) _ | refine Ext.trans (by assumption) ?_))) hx0
          have t0 := hx0.cell (p := ⟨w.heap.size, 0, none⟩) (v := .slice tA tn tc) (by first | (simp; done) | (simp (maxDischargeDepth := 7) [go_sem]; done))
          go_wp2_with fail
          refine (HM.out true hm _ k0).mono ?_
          rintro e1 w1 ⟨rfl, hx1⟩
          have k1 : Ext w w1 := k0.trans hx1
          replace t0 := hx1.cell t0
          clear HAW HM hm
          go_wp2
          go_ret
          exact ⟨rfl, k1⟩
      · have g1 : ((pn : Int) != tn) = true := by simp; omega
        have g2 : ¬ (pn : Int) = tn := by omega
        clear hol hpl hzl h1
        go_enter Try.func4, Try.ntmps4
        try simp only [List.append_eq, List.cons_append, List.nil_append]
        go_wp2_with fail
        refine (HAW.out _).mono ?_
        rintro e0 w0 ⟨rfl, hx0⟩
        have k0 : Ext w w0 := Ext.trans ((by repeat (first | assumption | exact Ext.refl _ | refine Ext.alloc ?_ _ | refine Ext.drew ?_ | refine Ext.drewN ?_ _ | refine Ext.setCell ?_ (by first | (simp; done) | omega | (simp; omega)) _ | refine Ext.trans (by assumption) ?_))) hx0
        have t0 := hx0.cell (p := ⟨w.heap.size, 0, none⟩) (v := .slice tA tn tc) (by first | (simp; done) | (simp (maxDischargeDepth := 7) [go_sem]; done))
        go_wp2_with fail
        refine (HM.out true hm _ k0).mono ?_
        rintro e1 w1 ⟨rfl, hx1⟩
        have k1 : Ext w w1 := k0.trans hx1
        replace t0 := hx1.cell t0
        clear HAW HM hm
        go_wp2
        go_ret
        exact ⟨rfl, k1⟩
    · have g1 : ((on : Int) != tn) = true := by simp; omega
      have g2 : ¬ (on : Int) = tn := by omega
      clear hol hpl hzl
      go_enter Try.func4, Try.ntmps4
      try simp only [List.append_eq, List.cons_append, List.nil_append]
      go_wp2_with fail
      refine (HAW.out _).mono ?_
      rintro e0 w0 ⟨rfl, hx0⟩
      have k0 : Ext w w0 := Ext.trans ((by repeat (first | assumption | exact Ext.refl _ | refine Ext.alloc ?_ _ | refine Ext.drew ?_ | refine Ext.drewN ?_ _ | refine Ext.setCell ?_ (by first | (simp; done) | omega | (simp; omega)) _ | refine Ext.trans (by assumption) ?_))) hx0
      have t0 := hx0.cell (p := ⟨w.heap.size, 0, none⟩) (v := .slice tA tn tc) (by first | (simp; done) | (simp (maxDischargeDepth := 7) [go_sem]; done))
      go_wp2_with fail
      refine (HM.out true hm _ k0).mono ?_
      rintro e1 w1 ⟨rfl, hx1⟩
      have k1 : Ext w w1 := k0.trans hx1
      replace t0 := hx1.cell t0
      clear HAW HM hm
      go_wp2
      go_ret
      exact ⟨rfl, k1⟩
set_option maxRecDepth 100000 in
theorem WeightPass_lifted (os : Os) (started : os.Started) (H : Type) (enc : TypeId × Value → H) :
    ReturnsInHanded {} Try.checked os 4 .any (Rows.weightPassSpec.pre6 enc Try.prog Try.f4 Rows.weightPassRow.domain false) (Rows.weightPassSpec.post enc Try.prog Try.f4 false true false false) := by
  refine returnsInHanded_of_change_sized (C := Try.checked) own started (by kernel_rfl) Try.func4
    (ChangeSpec.witness6 (enc := enc) (C := Try.checked) false ⟨#[], #[.agg #[.slice none 0 0], .slice none 0 0, .slice none 0 0, .slice none 0 0], []⟩ 8 (by kernel_rfl) (by kernel_rfl) (by kernel_rfl) (by kernel_rfl)) ?_
  intro W base args ds gs before hval0 hW _hcnd hsz0 _
  have hval : ∀ (j : Nat) t v, Try.f4.params[j]? = some t → args[j]? = some v → Value.okWide Try.prog W .any base t v := hval0
  have hsz : (DataW.weightsEach Try.prog (Try.f4.params.toList ++ Rows.weightPassSpec.plain.varTypes Try.prog) (ds ++ gs)).all (· ≤ reachBytes) = true := hsz0
  have hW' := hW
  obtain ⟨p, q, hA0, hV, rfl, hfz, hnd⟩ := hW
  have hA : DataW.TrodAll enc Try.prog W 0 (fun _ => true) true Try.f4.params.toList args.toList ds p := hA0
  rw [Try.params4] at hA hval hsz
  obtain ⟨v0, vs0, d0, ds0, p0, q0, hargs, rfl, rfl, h0, r0⟩ := trodAll_cons hA
  obtain ⟨v1, vs1, d1, ds1, p1, q1, rfl, rfl, rfl, h1, r1⟩ := trodAll_cons r0
  obtain ⟨v2, vs2, d2, ds2, p2, q2, rfl, rfl, rfl, h2, r2⟩ := trodAll_cons r1
  obtain ⟨v3, vs3, d3, ds3, p3, q3, rfl, rfl, rfl, h3, r3⟩ := trodAll_cons r2
  obtain ⟨rfl, rfl, rfl⟩ := trodAll_nil r3
  obtain rfl : args = #[v0, v1, v2, v3] := by cases args; simp_all
  obtain ⟨rfl, rfl⟩ := trodVars_none hV
  have h0k := h0
  have h1k := h1
  have h2k := h2
  have h3k := h3
  have hlt0 : ∀ x ∈ p0, x.block < W.heap.size := fun x hx => by have := hW'.lt x (by simp [hx]); simpa using this
  have hlt1 : ∀ x ∈ p1, x.block < W.heap.size := fun x hx => by have := hW'.lt x (by simp [hx]); simpa using this
  have hlt2 : ∀ x ∈ p2, x.block < W.heap.size := fun x hx => by have := hW'.lt x (by simp [hx]); simpa using this
  have hlt3 : ∀ x ∈ p3, x.block < W.heap.size := fun x hx => by have := hW'.lt x (by simp [hx]); simpa using this
  obtain ⟨tA, tn, tc, t, rfl, ht⟩ := open_tree (hval 0 24 v0 rfl rfl) h0 hsz (j := 0) rfl rfl
  obtain ⟨own, ownA, ownn, ownc, rfl, hown⟩ := open_Ints Try.underlying25 Try.underlying33 (by kernel_rfl) (by kernel_rfl) (hval 1 25 v1 rfl rfl) h1 hsz (j := 1) rfl rfl
  obtain ⟨plus, plusA, plusn, plusc, rfl, hplus⟩ := open_Ints Try.underlying25 Try.underlying33 (by kernel_rfl) (by kernel_rfl) (hval 2 25 v2 rfl rfl) h2 hsz (j := 2) rfl rfl
  obtain ⟨minus, minusA, minusn, minusc, rfl, hminus⟩ := open_Ints Try.underlying25 Try.underlying33 (by kernel_rfl) (by kernel_rfl) (hval 3 25 v3 rfl rfl) h3 hsz (j := 3) rfl rfl
  clear hA0 hval0
  simp only [List.append_nil] at hW'
  refine (WeightPass_walk tA tn tc t ht ownA ownn ownc own hown plusA plusn plusc plus hplus minusA minusn minusc minus hminus (w := W)).mono fun e W' ⟨he, hg⟩ => ?_
  subst he
  exact ⟨_, rfl, post_law (pa := p0 ++ (p1 ++ (p2 ++ (p3 ++ [])))) (pv := []) hW' (fun _ _ _ => (trodAll_cons_mk (shut_bool Try.underlying4 _) trodAll_mk0))
    (trodAll_cons_mk (Below.trod laidOut (by kernel_rfl) (of_decide_eq_true (by kernel_rfl)) h0k hg.out hlt0) (trodAll_cons_mk (Below.trod laidOut (by kernel_rfl) (of_decide_eq_true (by kernel_rfl)) h1k hg.out hlt1) (trodAll_cons_mk (Below.trod laidOut (by kernel_rfl) (of_decide_eq_true (by kernel_rfl)) h2k hg.out hlt2) (trodAll_cons_mk (Below.trod laidOut (by kernel_rfl) (of_decide_eq_true (by kernel_rfl)) h3k hg.out hlt3) trodAll_mk0)))) rfl (by simp) hg⟩
theorem WeightPass_holds : Rows.WeightPassSaid :=
  OpenClaim.holds_of_wide 4 Try.f4 rfl rfl rfl rfl rfl rfl rfl ⟨rfl, rfl, rfl, rfl, rfl⟩ rfl rfl rfl rfl rfl (by kernel_rfl) Try.func4 (by kernel_rfl)
    (of_decide_eq_true (by kernel_rfl)) (by unfold Func.isWrapper; first | (rw [if_pos (by decide +kernel)]; kernel_rfl) | (rw [if_neg (by decide +kernel)]; exact ⟨rfl, rfl⟩))
    (fun os started H enc _ => WeightPass_lifted os started H enc)
#print axioms WeightPass_holds
end Go.Proofs.Ytdeeplfbdoapmaa
