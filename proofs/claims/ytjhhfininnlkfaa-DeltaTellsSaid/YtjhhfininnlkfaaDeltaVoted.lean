/- Layer 14: delta.voted, and what it hands on. -/
import Derived.Test.YtjhhfininnlkfaaDeltaIter
import Derived.Sort.CutIn
namespace Go.Proofs.Ytjhhfininnlkfaa
open Go.RowKit Go.WideShapes Go.ChangeShapes
set_option linter.unusedVariables false
set_option linter.unusedSimpArgs false








/-- The three captured variables, from block S on. -/
structure Capt (W : World) (S : Nat) (A : Option Addr) (n c : Nat) (vA : Option Addr) (vn vc vo : Nat) (bA : Option Addr) (bn bc bo : Nat) : Prop where
  t0 : W.cell? ⟨S, 0, none⟩ = some (.slice A n c)
  v0 : W.cell? ⟨S + 1, 0, none⟩ = some (.slice vA vn vc)
  v1 : W.cell? ⟨S + 1, 1, none⟩ = some (.int .u64 vo)
  b0 : W.cell? ⟨S + 1 + 1, 0, none⟩ = some (.slice bA bn bc)
  b1 : W.cell? ⟨S + 1 + 1, 1, none⟩ = some (.int .u64 bo)
theorem Capt.ext {W W' : World} {S : Nat} {A : Option Addr} {n c : Nat} {vA : Option Addr} {vn vc vo : Nat} {bA : Option Addr} {bn bc bo : Nat} (h : Capt W S A n c vA vn vc vo bA bn bc bo) (hx : Ext W W') : Capt W' S A n c vA vn vc vo bA bn bc bo :=
  ⟨hx.cell h.t0, hx.cell h.v0, hx.cell h.v1, hx.cell h.b0, hx.cell h.b1⟩

theorem voted_any (A : Option Addr) (n c : Nat) (vA : Option Addr) (vn vc vo : Nat) (bA : Option Addr) (bn bc bo : Nat) (w : World) :
    Calls Try.prog 34 #[.agg #[.slice A n c], .agg #[.slice vA vn vc, .int .u64 vo], .agg #[.slice bA bn bc, .int .u64 bo]] w fun e w' => e = .returned (.func (.func 48) #[] #[.pointer (some ⟨w.heap.size + 1, 0, none⟩), .pointer (some ⟨w.heap.size + 1 + 1, 0, none⟩), .pointer (some ⟨w.heap.size, 0, none⟩)]) ∧ w' = (((w.alloc (.cells #[.slice A n c] 24)).alloc (.cells #[.slice vA vn vc, .int .u64 vo] 28)).alloc (.cells #[.slice bA bn bc, .int .u64 bo] 28)) := by
  go_enter Try.func34, Try.ntmps34
  go_wp2
  go_ret
  exact ⟨rfl, rfl⟩




set_option maxRecDepth 100000 in
set_option maxHeartbeats 4000000 in
theorem voted1_in (A : Option Addr) (n c : Nat) (NS : List Node) (hm : Tree.mayV NS = true) (vA : Option Addr) (vn vc vo : Nat) (v : List Lat) (bA : Option Addr) (bn bc bo : Nat) (but : List Lat) (S : Nat) (w : World) (h : NL w A n c NS) (hv : VL w vA vn vc v) (hb : VL w bA bn bc but) :
    PairIter Fence.wide 8 Try.prog 48 #[.pointer (some ⟨S + 1, 0, none⟩), .pointer (some ⟨S + 1 + 1, 0, none⟩), .pointer (some ⟨S, 0, none⟩)] (Delta.pairs NS v but vn) (fun W => Ext w W ∧ Capt W S A n c vA vn vc vo bA bn bc bo) := by
  intro l J W hJT hset hY h0
  have hvl := hv.len
  have hbl := hb.len
  have hvroom := hv.row.room
  have HVW := Lib.hid (fun W (k : Ext w W) => hv.ext k)
  have HBW := Lib.hid (fun W (k : Ext w W) => hb.ext k)
  have HF := Lib.hid (fun r (hr : RootOk r) W (k : Ext w W) => find_any A n c NS r hr W (h.ext k))
  have HMA := Lib.hid hm
  have hmix : Try.prog.follows .mixedOrders = true := by kernel_rfl
  clear h hv hb hm
  refine callsIn_of_wp Try.func48 rfl trivial ?_ rfl
  simp only [Try.ntmps48, List.size_toArray, List.length_cons, List.length_nil, Nat.reduceAdd, Nat.reduceSub, Array.replicate_succ, Array.replicate_zero, List.push_toArray, List.append_toArray, List.nil_append, List.cons_append]
  have HY := Lib.hid hY
  have HJ := Lib.hid hJT
  have HS := Lib.hid hset
  have c0 := (hJT _ _ h0).2.v0
  clear hY hJT hset
  gi_wp2
  gi_loopw [5, 6, 7, 11] (fun _ _ _ i' wr => ∃ k : Nat, k ≤ vn ∧ i' = .int .i64 k ∧ J (Delta.pairs NS v but k) wr) (fun _ _ _ i' _ => vn - (intOf i').toNat)
  case atStart => exact ⟨0, Nat.zero_le _, rfl, h0⟩
  case round =>
    obtain ⟨k, hk, rfl, hj⟩ := hrel
    clear c0 h0
    have hT := HJ.out _ _ hj
    by_cases hlt : k < vn
    · obtain ⟨b, off, rfl, hr, hok⟩ := (HVW.out wr hT.1).at' hlt
      have HNEW : Hid (Delta.newB v but k = ((v.getD k Lat.none).has && !(decide (k < bn) && (but.getD k Lat.none).eqb (v.getD k Lat.none)))) := by show _ = _; unfold Delta.newB; rw [hbl]
      have HHAS : Hid (Delta.hasB NS v but k = (Delta.newB v but k && decide ((v.getD k Lat.none).root ∈ Tree.roots NS))) := rfl
      have HPLC : Hid (Delta.plc NS v k = (Tree.roots NS).idxOf (v.getD k Lat.none).root) := rfl
      generalize v.getD k Lat.none = x at *
      have hi34 : (Try.prog.info? 40).map (·.size) = some x.cells.length := by rw [Lat.len hok]; kernel_rfl
      have hi32 : (Try.prog.info? 38).map (·.size) = some (rootC x.root).length := by rw [rootC_len hok.1]; kernel_rfl
      have g1 : (k : Int) < vn := by omega
      gi_upto_region 3 with (first | (refine wpListIn_load_mid rfl 40 _ rfl _ _ rfl x.cells _ (rangeAt_ext hr ((by repeat (first | assumption | exact Ext.refl _ | refine Ext.alloc ?_ _ | refine Ext.drew ?_ | refine Ext.drewN ?_ _ | refine Ext.setCell ?_ (by first | (simp; done) | omega | (simp; omega)) _ | refine Ext.trans (by assumption) ?_)))) Try.underlying40 rfl hi34 ?_) | (refine wpListIn_store_mid rfl 40 _ _ rfl _ 0 x.cells.toArray rfl rfl (there_at (by simp) _ (by rw [List.size_toArray, Lat.len hok]; decide)) (by rw [List.size_toArray]; exact hi34) (all_oneCell_toArray (Lat.one x)) ?_; rw [List.toList_toArray, setCells_at (by simp) (by rw [Lat.len hok]; rfl)]))
      have kx : Ext wr (wr.alloc (.cells x.cells.toArray 40)) := (Ext.refl _).alloc _
      have DX := range_at (w := wr) (B := wr.heap.size) x.cells 40 rfl
      have d0 := DX 0 (.bool x.has) rfl
      have DR := rangeAt_part DX (k := 1) rfl
      simp only [Nat.zero_add] at d0 DR
      replace hj := HS.out _ _ _ hj kx
      obtain ⟨xT, cT⟩ := HJ.out _ _ hj
      have t0 := cT.t0
      have b0 := cT.b0
      have b1 := cT.b1
      clear kx hr hT cT
      generalize (wr.alloc (.cells x.cells.toArray 40)) = w3 at *
      generalize wr.heap.size = X at *
      cases hh : x.has with
      | false =>
        rw [hh] at d0 HNEW
        have HP : Hid (Delta.pairs NS v but (k + 1) = Delta.pairs NS v but k) := Lib.hid (Delta.pairs_no (by rw [HHAS.out, HNEW.out]; rfl))
        clear hh
        try simp only [Act.put, List.setIfInBounds_toArray, List.set_cons_zero, List.set_cons_succ]
        refine wpIn_region_quiet_lit rfl hmix (by kernel_rfl) ?_
        repeat (first | gi_big_quiet_skip | (gi_big_quiet_want; first | ((first | (refine quietIn_load_mid 40 _ rfl _ _ rfl x.cells _ (fun W ⟨nn, hn⟩ => hn ▸ rangeAt_ext DX ((Ext.refl _).drewN nn)) Try.underlying40 rfl hi34 ?_)); (try simp only [Act.put, List.setIfInBounds_toArray, List.set_cons_zero, List.set_cons_succ]); go_big_quiet_on) | (gi_big_quiet_op; first | go_big_quiet_on | gi_big_quiet_call (fail))))
        refine wpQuietIn_nil ?_
        intro _ hw'
        obtain ⟨nq', hw''⟩ := hw'
        subst hw''
        gi_wp2
        go_roundw
        case rel =>
          have J' : J (Delta.pairs NS v but (k + 1)) (w3.drewN nq') := by rw [HP.out]; exact HS.out _ _ _ hj ((Ext.refl _).drewN _)
          first | exact ⟨k + 1, by omega, by go_num, J'⟩ | (refine ⟨_, _, _, ⟨k + 1, by omega, ?_, J'⟩, rfl, rfl, rfl⟩; go_num)
        case measure => simp [intOf]; omega
      | true =>
        rw [hh] at d0 HNEW
        by_cases hkb : k < bn
        · obtain ⟨bb, boff, rfl, hrb, hokb⟩ := (HBW.out w3 xT).at' hkb
          rw [decide_eq_true hkb] at HNEW
          have g2 : (k : Int) < bn := by omega
          generalize but.getD k Lat.none = y at *
          have hj34 : (Try.prog.info? 40).map (·.size) = some y.cells.length := by rw [Lat.len hokb]; kernel_rfl
          obtain ⟨q, hq⟩ : ∃ q, y.eqb x = q := ⟨_, rfl⟩
          have he : ∀ W, (binOp .eql 40 (.agg y.cells.toArray) (.agg x.cells.toArray)).run Try.prog W = .ok (.bool q) W := fun W => Lat.eql hokb hok (b := q) (by rw [← hq]; exact Lat.eqb_iff) W
          rw [hq] at HNEW
          clear hh hq hkb
          cases q with
          | true =>
            have HP : Hid (Delta.pairs NS v but (k + 1) = Delta.pairs NS v but k) := Lib.hid (Delta.pairs_no (by rw [HHAS.out, HNEW.out]; rfl))
            try simp only [Act.put, List.setIfInBounds_toArray, List.set_cons_zero, List.set_cons_succ]
            refine wpIn_region_quiet_lit rfl hmix (by kernel_rfl) ?_
            repeat (first | gi_big_quiet_skip | (gi_big_quiet_want; first | ((first | (refine quietIn_load_mid 40 _ rfl _ _ rfl x.cells _ (fun W ⟨nn, hn⟩ => hn ▸ rangeAt_ext DX ((Ext.refl _).drewN nn)) Try.underlying40 rfl hi34 ?_) | (refine quietIn_load_mid 40 _ rfl _ _ rfl y.cells _ (fun W ⟨nn, hn⟩ => hn ▸ rangeAt_ext hrb ((Ext.refl _).drewN nn)) Try.underlying40 rfl hj34 ?_)); (try simp only [Act.put, List.setIfInBounds_toArray, List.set_cons_zero, List.set_cons_succ]); go_big_quiet_on) | (gi_big_quiet_op; first | go_big_quiet_on | gi_big_quiet_call (fail))))
            refine wpQuietIn_nil ?_
            intro _ hw'
            obtain ⟨nq', hw''⟩ := hw'
            subst hw''
            gi_wp2
            go_roundw
            case rel =>
              have J' : J (Delta.pairs NS v but (k + 1)) (w3.drewN nq') := by rw [HP.out]; exact HS.out _ _ _ hj ((Ext.refl _).drewN _)
              first | exact ⟨k + 1, by omega, by go_num, J'⟩ | (refine ⟨_, _, _, ⟨k + 1, by omega, ?_, J'⟩, rfl, rfl, rfl⟩; go_num)
            case measure => simp [intOf]; omega
          | false =>
            have hnew : Delta.newB v but k = true := HNEW.out
            try simp only [Act.put, List.setIfInBounds_toArray, List.set_cons_zero, List.set_cons_succ]
            refine wpIn_region_quiet_lit rfl hmix (by kernel_rfl) ?_
            repeat (first | gi_big_quiet_skip | (gi_big_quiet_want; first | ((first | (refine quietIn_load_mid 40 _ rfl _ _ rfl x.cells _ (fun W ⟨nn, hn⟩ => hn ▸ rangeAt_ext DX ((Ext.refl _).drewN nn)) Try.underlying40 rfl hi34 ?_) | (refine quietIn_load_mid 40 _ rfl _ _ rfl y.cells _ (fun W ⟨nn, hn⟩ => hn ▸ rangeAt_ext hrb ((Ext.refl _).drewN nn)) Try.underlying40 rfl hj34 ?_)); (try simp only [Act.put, List.setIfInBounds_toArray, List.set_cons_zero, List.set_cons_succ]); go_big_quiet_on) | (gi_big_quiet_op; first | go_big_quiet_on | gi_big_quiet_call (fail))))
            refine wpQuietIn_nil ?_
            intro _ hw'
            obtain ⟨nq', hw''⟩ := hw'
            subst hw''
            have kd : Ext w3 (w3.drewN nq') := (Ext.refl _).drewN _
            replace hj := HS.out _ _ _ hj kd
            replace xT := xT.trans kd
            replace t0 := kd.cell t0
            have DR4 := rangeAt_ext DR kd
            clear kd d0 DX DR b0 b1
            generalize w3.drewN nq' = w4 at *
            by_cases hin : x.root ∈ Tree.roots NS
            · have HP : Hid (Delta.pairs NS v but (k + 1) = Delta.pairs NS v but k ++ [(k, Delta.plc NS v k)]) := Lib.hid (Delta.pairs_yes (by rw [HHAS.out, hnew, decide_eq_true hin]; rfl))
              have HF1 := Lib.hid (fun W (kk : Ext w W) => (by have t := HF.out x.root hok.1 W kk; rw [findV_in HMA.out hin, ← HPLC.out] at t; exact t : Calls Try.prog 16 #[.agg #[.slice A n c], .agg (rootC x.root).toArray] W fun e w' => e = .returned (.int .i64 (Delta.plc NS v k : Nat)) ∧ Ext W w'))
              have hpre : Delta.pairs NS v but k ++ [(k, Delta.plc NS v k)] <+: Delta.pairs NS v but vn := by rw [← HP.out]; exact Delta.pairs_pre (by omega)
              have HPRE := Lib.hid hpre
              have gz : (0 : Int) ≤ (Delta.plc NS v k : Nat) := by omega
              clear hpre hin hnew
              generalize Delta.plc NS v k = p at *
              gi_upto_region 5 with (first | (refine wpListIn_load_mid rfl 38 _ rfl _ _ rfl (rootC x.root) _ DR4 Try.underlying38 rfl hi32 ?_) | (refine ⟨trivial, ?_⟩; gi_at_call 16; refine (callsIn_wide.2 (HF1.out _ xT)).mono ?_; rintro e w5 ⟨rfl, hx5⟩))
              replace hj := HS.out _ _ _ hj hx5
              obtain ⟨fn, tmps, assign, body, hy, hR⟩ := HY.out _ (k, p) w5 hj HPRE.out
              gi_wp2
              refine hR.mono ?_
              rintro e W' ⟨rfl, hj'⟩
              gi_wp2
              go_roundw
              case rel =>
                have J' : J (Delta.pairs NS v but (k + 1)) W' := by rw [HP.out]; exact hj'
                first | exact ⟨k + 1, by omega, by go_num, J'⟩ | (refine ⟨_, _, _, ⟨k + 1, by omega, ?_, J'⟩, rfl, rfl, rfl⟩; go_num)
              case measure => simp [intOf]; omega
            · have HP : Hid (Delta.pairs NS v but (k + 1) = Delta.pairs NS v but k) := Lib.hid (Delta.pairs_no (by rw [HHAS.out, hnew, decide_eq_false hin]; rfl))
              have HF1 := Lib.hid (fun W (kk : Ext w W) => (by have t := HF.out x.root hok.1 W kk; rw [findV_out hin] at t; exact t : Calls Try.prog 16 #[.agg #[.slice A n c], .agg (rootC x.root).toArray] W fun e w' => e = .returned (.int .i64 (-1)) ∧ Ext W w'))
              clear hin hnew
              gi_upto_region 5 with (first | (refine wpListIn_load_mid rfl 38 _ rfl _ _ rfl (rootC x.root) _ DR4 Try.underlying38 rfl hi32 ?_) | (refine ⟨trivial, ?_⟩; gi_at_call 16; refine (callsIn_wide.2 (HF1.out _ xT)).mono ?_; rintro e w5 ⟨rfl, hx5⟩))
              gi_wp2
              refine ⟨fun _ h => (by cases h), ?_⟩
              gi_wp2
              go_roundw
              case rel =>
                have J' : J (Delta.pairs NS v but (k + 1)) w5 := by rw [HP.out]; exact HS.out _ _ _ hj (hx5)
                first | exact ⟨k + 1, by omega, by go_num, J'⟩ | (refine ⟨_, _, _, ⟨k + 1, by omega, ?_, J'⟩, rfl, rfl, rfl⟩; go_num)
              case measure => simp [intOf]; omega
        · rw [decide_eq_false hkb] at HNEW
          have g2 : ¬ (k : Int) < bn := by omega
          have hnew : Delta.newB v but k = true := HNEW.out
          clear hh hkb
          try simp only [Act.put, List.setIfInBounds_toArray, List.set_cons_zero, List.set_cons_succ]
          refine wpIn_region_quiet_lit rfl hmix (by kernel_rfl) ?_
          repeat (first | gi_big_quiet_skip | (gi_big_quiet_want; first | ((first | (refine quietIn_load_mid 40 _ rfl _ _ rfl x.cells _ (fun W ⟨nn, hn⟩ => hn ▸ rangeAt_ext DX ((Ext.refl _).drewN nn)) Try.underlying40 rfl hi34 ?_)); (try simp only [Act.put, List.setIfInBounds_toArray, List.set_cons_zero, List.set_cons_succ]); go_big_quiet_on) | (gi_big_quiet_op; first | go_big_quiet_on | gi_big_quiet_call (fail))))
          refine wpQuietIn_nil ?_
          intro _ hw'
          obtain ⟨nq', hw''⟩ := hw'
          subst hw''
          have kd : Ext w3 (w3.drewN nq') := (Ext.refl _).drewN _
          replace hj := HS.out _ _ _ hj kd
          replace xT := xT.trans kd
          replace t0 := kd.cell t0
          have DR4 := rangeAt_ext DR kd
          clear kd d0 DX DR b0 b1
          generalize w3.drewN nq' = w4 at *
          by_cases hin : x.root ∈ Tree.roots NS
          · have HP : Hid (Delta.pairs NS v but (k + 1) = Delta.pairs NS v but k ++ [(k, Delta.plc NS v k)]) := Lib.hid (Delta.pairs_yes (by rw [HHAS.out, hnew, decide_eq_true hin]; rfl))
            have HF1 := Lib.hid (fun W (kk : Ext w W) => (by have t := HF.out x.root hok.1 W kk; rw [findV_in HMA.out hin, ← HPLC.out] at t; exact t : Calls Try.prog 16 #[.agg #[.slice A n c], .agg (rootC x.root).toArray] W fun e w' => e = .returned (.int .i64 (Delta.plc NS v k : Nat)) ∧ Ext W w'))
            have hpre : Delta.pairs NS v but k ++ [(k, Delta.plc NS v k)] <+: Delta.pairs NS v but vn := by rw [← HP.out]; exact Delta.pairs_pre (by omega)
            have HPRE := Lib.hid hpre
            have gz : (0 : Int) ≤ (Delta.plc NS v k : Nat) := by omega
            clear hpre hin hnew
            generalize Delta.plc NS v k = p at *
            gi_upto_region 5 with (first | (refine wpListIn_load_mid rfl 38 _ rfl _ _ rfl (rootC x.root) _ DR4 Try.underlying38 rfl hi32 ?_) | (refine ⟨trivial, ?_⟩; gi_at_call 16; refine (callsIn_wide.2 (HF1.out _ xT)).mono ?_; rintro e w5 ⟨rfl, hx5⟩))
            replace hj := HS.out _ _ _ hj hx5
            obtain ⟨fn, tmps, assign, body, hy, hR⟩ := HY.out _ (k, p) w5 hj HPRE.out
            gi_wp2
            refine hR.mono ?_
            rintro e W' ⟨rfl, hj'⟩
            gi_wp2
            go_roundw
            case rel =>
              have J' : J (Delta.pairs NS v but (k + 1)) W' := by rw [HP.out]; exact hj'
              first | exact ⟨k + 1, by omega, by go_num, J'⟩ | (refine ⟨_, _, _, ⟨k + 1, by omega, ?_, J'⟩, rfl, rfl, rfl⟩; go_num)
            case measure => simp [intOf]; omega
          · have HP : Hid (Delta.pairs NS v but (k + 1) = Delta.pairs NS v but k) := Lib.hid (Delta.pairs_no (by rw [HHAS.out, hnew, decide_eq_false hin]; rfl))
            have HF1 := Lib.hid (fun W (kk : Ext w W) => (by have t := HF.out x.root hok.1 W kk; rw [findV_out hin] at t; exact t : Calls Try.prog 16 #[.agg #[.slice A n c], .agg (rootC x.root).toArray] W fun e w' => e = .returned (.int .i64 (-1)) ∧ Ext W w'))
            clear hin hnew
            gi_upto_region 5 with (first | (refine wpListIn_load_mid rfl 38 _ rfl _ _ rfl (rootC x.root) _ DR4 Try.underlying38 rfl hi32 ?_) | (refine ⟨trivial, ?_⟩; gi_at_call 16; refine (callsIn_wide.2 (HF1.out _ xT)).mono ?_; rintro e w5 ⟨rfl, hx5⟩))
            gi_wp2
            refine ⟨fun _ h => (by cases h), ?_⟩
            gi_wp2
            go_roundw
            case rel =>
              have J' : J (Delta.pairs NS v but (k + 1)) w5 := by rw [HP.out]; exact HS.out _ _ _ hj (hx5)
              first | exact ⟨k + 1, by omega, by go_num, J'⟩ | (refine ⟨_, _, _, ⟨k + 1, by omega, ?_, J'⟩, rfl, rfl, rfl⟩; go_num)
            case measure => simp [intOf]; omega
    · have e : k = vn := by omega
      subst e
      gi_wp2
      go_end0
      exact ⟨⟨_, rfl⟩, hj⟩
end Go.Proofs.Ytjhhfininnlkfaa
