/- VoteOne: a vote that is put changes no other one's; put again it is ignored, unless it was the second one. No conditions. -/
import Derived.Test.YtnpopepannimiaaVoteLaw
import Derived.Test.YtnpopepannimiaaLatOpen
import Derived.Test.YtnpopepannimiaaQuietX
namespace Go.Proofs.Ytnpopepannimiaa
open Go.RowKit Go.WideShapes Go.ChangeShapes Go.Joins Go.Deep Go.Sort
set_option linter.unusedVariables false
set_option linter.unusedSimpArgs false










set_option maxHeartbeats 8000000 in
theorem VoteOne_walk (A : Option Addr) (n c : Nat) (LS : List Lat) (o : Nat) (ho : o < 18446744073709551616) {w : World} (h : VL w A n c LS) (val : Int) (q1 : -9223372036854775808 ≤ val) (q2 : val ≤ 9223372036854775807) (r : List Int) (hr0 : RootOk r) (e : Nat) (he : e < 18446744073709551616) (other : Int) (u1 : -9223372036854775808 ≤ other) (u2 : other ≤ 9223372036854775807) :
    Calls Try.prog 4 #[.agg #[.slice A n c, .int .u64 o], .int .i64 val, .agg (rootC r).toArray, .int .u64 e, .int .i64 other] w fun e' w' => e' = .returned (.bool true) ∧ Ext w w' := by
  have HA := Lib.hid (fun W => awake_any W)
  have HM := Lib.hid (fun W (k : Ext w W) => vmay_any A n c o ho LS W (h.ext k))
  have hi32 : (Try.prog.info? 32).map (·.size) = some (rootC r).length := by rw [rootC_len hr0]; kernel_rfl
  have hl := h.len
  cases hm : mayV LS o with
  | false =>
    rw [hm] at HM
    clear h
    go_enter Try.func4, Try.ntmps4
    go_wp2_with fail
    refine (HA.out _).mono ?_
    rintro e1 w1 ⟨rfl, hx1⟩
    have k1 : Ext w w1 := Ext.trans ((by repeat (first | assumption | exact Ext.refl _ | refine Ext.alloc ?_ _ | refine Ext.drew ?_ | refine Ext.drewN ?_ _ | refine Ext.setCell ?_ (by first | (simp; done) | omega | (simp; omega)) _ | refine Ext.trans (by assumption) ?_))) hx1
    obtain ⟨v0, v1, vf⟩ := hx1.box2 (B := w.heap.size) (a := .slice A n c) (b := .int .u64 o) (by first | (simp; done) | (simp (maxDischargeDepth := 7) [go_sem]; done)) (by first | (simp; done) | (simp (maxDischargeDepth := 7) [go_sem]; done)) (by first | (simp; done) | (simp (maxDischargeDepth := 7) [go_sem]; done))
    have vl := lt_of_cell v0
    have rR := rangeAt_ext (range_at (w := w.alloc (.cells #[.slice A n c, .int .u64 o] 28)) (B := w.heap.size + 1) (rootC r) 32 (by simp)) hx1
    go_wp2_with fail
    refine (HM.out _ k1).mono ?_
    rintro e2 w2 ⟨rfl, hx2⟩
    have k2 : Ext w1 w2 := hx2
    replace vf := k2.free v0 vf
    replace v0 := k2.cell v0
    replace v1 := k2.cell v1
    replace vl := lt_of_cell v0
    replace rR := rangeAt_ext rR k2
    go_wp2
    go_ret
    exact ⟨rfl, k1.trans k2⟩
  | true =>
    rw [hm] at HM
    by_cases hv : val < 0
    · clear h
      go_enter Try.func4, Try.ntmps4
      go_wp2_with fail
      refine (HA.out _).mono ?_
      rintro e1 w1 ⟨rfl, hx1⟩
      have k1 : Ext w w1 := Ext.trans ((by repeat (first | assumption | exact Ext.refl _ | refine Ext.alloc ?_ _ | refine Ext.drew ?_ | refine Ext.drewN ?_ _ | refine Ext.setCell ?_ (by first | (simp; done) | omega | (simp; omega)) _ | refine Ext.trans (by assumption) ?_))) hx1
      obtain ⟨v0, v1, vf⟩ := hx1.box2 (B := w.heap.size) (a := .slice A n c) (b := .int .u64 o) (by first | (simp; done) | (simp (maxDischargeDepth := 7) [go_sem]; done)) (by first | (simp; done) | (simp (maxDischargeDepth := 7) [go_sem]; done)) (by first | (simp; done) | (simp (maxDischargeDepth := 7) [go_sem]; done))
      have vl := lt_of_cell v0
      have rR := rangeAt_ext (range_at (w := w.alloc (.cells #[.slice A n c, .int .u64 o] 28)) (B := w.heap.size + 1) (rootC r) 32 (by simp)) hx1
      go_wp2_with fail
      refine (HM.out _ k1).mono ?_
      rintro e2 w2 ⟨rfl, hx2⟩
      have k2 : Ext w1 w2 := hx2
      replace vf := k2.free v0 vf
      replace v0 := k2.cell v0
      replace v1 := k2.cell v1
      replace vl := lt_of_cell v0
      replace rR := rangeAt_ext rR k2
      go_wp2
      go_ret
      exact ⟨rfl, k1.trans k2⟩
    by_cases hvn : (n : Int) ≤ val
    · clear h
      go_enter Try.func4, Try.ntmps4
      go_wp2_with fail
      refine (HA.out _).mono ?_
      rintro e1 w1 ⟨rfl, hx1⟩
      have k1 : Ext w w1 := Ext.trans ((by repeat (first | assumption | exact Ext.refl _ | refine Ext.alloc ?_ _ | refine Ext.drew ?_ | refine Ext.drewN ?_ _ | refine Ext.setCell ?_ (by first | (simp; done) | omega | (simp; omega)) _ | refine Ext.trans (by assumption) ?_))) hx1
      obtain ⟨v0, v1, vf⟩ := hx1.box2 (B := w.heap.size) (a := .slice A n c) (b := .int .u64 o) (by first | (simp; done) | (simp (maxDischargeDepth := 7) [go_sem]; done)) (by first | (simp; done) | (simp (maxDischargeDepth := 7) [go_sem]; done)) (by first | (simp; done) | (simp (maxDischargeDepth := 7) [go_sem]; done))
      have vl := lt_of_cell v0
      have rR := rangeAt_ext (range_at (w := w.alloc (.cells #[.slice A n c, .int .u64 o] 28)) (B := w.heap.size + 1) (rootC r) 32 (by simp)) hx1
      go_wp2_with fail
      refine (HM.out _ k1).mono ?_
      rintro e2 w2 ⟨rfl, hx2⟩
      have k2 : Ext w1 w2 := hx2
      replace vf := k2.free v0 vf
      replace v0 := k2.cell v0
      replace v1 := k2.cell v1
      replace vl := lt_of_cell v0
      replace rR := rangeAt_ext rR k2
      go_wp2
      go_ret
      exact ⟨rfl, k1.trans k2⟩
    by_cases hu : other < 0
    · clear h
      go_enter Try.func4, Try.ntmps4
      go_wp2_with fail
      refine (HA.out _).mono ?_
      rintro e1 w1 ⟨rfl, hx1⟩
      have k1 : Ext w w1 := Ext.trans ((by repeat (first | assumption | exact Ext.refl _ | refine Ext.alloc ?_ _ | refine Ext.drew ?_ | refine Ext.drewN ?_ _ | refine Ext.setCell ?_ (by first | (simp; done) | omega | (simp; omega)) _ | refine Ext.trans (by assumption) ?_))) hx1
      obtain ⟨v0, v1, vf⟩ := hx1.box2 (B := w.heap.size) (a := .slice A n c) (b := .int .u64 o) (by first | (simp; done) | (simp (maxDischargeDepth := 7) [go_sem]; done)) (by first | (simp; done) | (simp (maxDischargeDepth := 7) [go_sem]; done)) (by first | (simp; done) | (simp (maxDischargeDepth := 7) [go_sem]; done))
      have vl := lt_of_cell v0
      have rR := rangeAt_ext (range_at (w := w.alloc (.cells #[.slice A n c, .int .u64 o] 28)) (B := w.heap.size + 1) (rootC r) 32 (by simp)) hx1
      go_wp2_with fail
      refine (HM.out _ k1).mono ?_
      rintro e2 w2 ⟨rfl, hx2⟩
      have k2 : Ext w1 w2 := hx2
      replace vf := k2.free v0 vf
      replace v0 := k2.cell v0
      replace v1 := k2.cell v1
      replace vl := lt_of_cell v0
      replace rR := rangeAt_ext rR k2
      go_wp2
      go_ret
      exact ⟨rfl, k1.trans k2⟩
    by_cases hun : (n : Int) ≤ other
    · clear h
      go_enter Try.func4, Try.ntmps4
      go_wp2_with fail
      refine (HA.out _).mono ?_
      rintro e1 w1 ⟨rfl, hx1⟩
      have k1 : Ext w w1 := Ext.trans ((by repeat (first | assumption | exact Ext.refl _ | refine Ext.alloc ?_ _ | refine Ext.drew ?_ | refine Ext.drewN ?_ _ | refine Ext.setCell ?_ (by first | (simp; done) | omega | (simp; omega)) _ | refine Ext.trans (by assumption) ?_))) hx1
      obtain ⟨v0, v1, vf⟩ := hx1.box2 (B := w.heap.size) (a := .slice A n c) (b := .int .u64 o) (by first | (simp; done) | (simp (maxDischargeDepth := 7) [go_sem]; done)) (by first | (simp; done) | (simp (maxDischargeDepth := 7) [go_sem]; done)) (by first | (simp; done) | (simp (maxDischargeDepth := 7) [go_sem]; done))
      have vl := lt_of_cell v0
      have rR := rangeAt_ext (range_at (w := w.alloc (.cells #[.slice A n c, .int .u64 o] 28)) (B := w.heap.size + 1) (rootC r) 32 (by simp)) hx1
      go_wp2_with fail
      refine (HM.out _ k1).mono ?_
      rintro e2 w2 ⟨rfl, hx2⟩
      have k2 : Ext w1 w2 := hx2
      replace vf := k2.free v0 vf
      replace v0 := k2.cell v0
      replace v1 := k2.cell v1
      replace vl := lt_of_cell v0
      replace rR := rangeAt_ext rR k2
      go_wp2
      go_ret
      exact ⟨rfl, k1.trans k2⟩
    obtain ⟨k, rfl⟩ := Int.eq_ofNat_of_zero_le (show 0 ≤ val by omega)
    obtain ⟨i, rfl⟩ := Int.eq_ofNat_of_zero_le (show 0 ≤ other by omega)
    have hk : k < n := by omega
    have hin : i < n := by omega
    have hkl : k < LS.length := by omega
    have P1 := err_put (r := r) (e := e) hm hkl
    have P2 := put_put (r := r) (e := e) hm hkl
    have P3 := out_put (r := r) (e := e) ho hm hkl
    have P4 := fun (j : Nat) (hj : j ≠ k) => put_other (r := r) (e := e) hm hkl hj
    have P5 := put_ignored (r := r) (e := e) hm hkl
    have hput := fun A c W (h : VL W A n c LS) => put_any A n c o ho LS k r hr0 e he W h
    generalize putV LS o k r e = pv at *
    obtain ⟨LS1, o1, kk, er⟩ := pv
    simp only at P1 P2 P3 P4 P5 hput
    subst P1
    have HP := Lib.hid hput
    have HP2 := Lib.hid (fun A c W (h : VL W A n c LS1) => (by have k0 := put_any A n c o1 P3 LS1 k r hr0 e he W h; rw [P2] at k0; exact k0 : Calls Try.prog 11 #[.agg #[.slice A n c, .int .u64 o1], .int .i64 k, .agg (rootC r).toArray, .int .u64 e] W fun e' w' => (∃ A2 c2, e' = .returned (.tuple #[.agg #[.slice A2 n c2, .int .u64 o1], .int .i64 0, .int .i64 0]) ∧ VL w' A2 n c2 LS1) ∧ Ext W w'))
    clear hput P2 hm
    have HX := Lib.hid P4
    have HI := Lib.hid P5
    clear P4 P5
    have g1 : (i : Int) < n := by omega
    go_enter Try.func4, Try.ntmps4
    go_wp2_with fail
    refine (HA.out _).mono ?_
    rintro e1 w1 ⟨rfl, hx1⟩
    have k1 : Ext w w1 := Ext.trans ((by repeat (first | assumption | exact Ext.refl _ | refine Ext.alloc ?_ _ | refine Ext.drew ?_ | refine Ext.drewN ?_ _ | refine Ext.setCell ?_ (by first | (simp; done) | omega | (simp; omega)) _ | refine Ext.trans (by assumption) ?_))) hx1
    obtain ⟨v0, v1, vf⟩ := hx1.box2 (B := w.heap.size) (a := .slice A n c) (b := .int .u64 o) (by first | (simp; done) | (simp (maxDischargeDepth := 7) [go_sem]; done)) (by first | (simp; done) | (simp (maxDischargeDepth := 7) [go_sem]; done)) (by first | (simp; done) | (simp (maxDischargeDepth := 7) [go_sem]; done))
    have vl := lt_of_cell v0
    have rR := rangeAt_ext (range_at (w := w.alloc (.cells #[.slice A n c, .int .u64 o] 28)) (B := w.heap.size + 1) (rootC r) 32 (by simp)) hx1
    go_wp2_with fail
    refine (HM.out _ k1).mono ?_
    rintro e2 w2 ⟨rfl, hx2⟩
    have k2 : Ext w1 w2 := hx2
    replace vf := k2.free v0 vf
    replace v0 := k2.cell v0
    replace v1 := k2.cell v1
    replace vl := lt_of_cell v0
    replace rR := rangeAt_ext rR k2
    go_wp2_with (refine wpList_load_mid rfl 32 _ rfl _ _ rfl (rootC r) _ (rangeAt_ext rR ((by repeat (first | assumption | exact Ext.refl _ | refine Ext.alloc ?_ _ | refine Ext.drew ?_ | refine Ext.drewN ?_ _ | refine Ext.setCell ?_ (by first | (simp; done) | omega | (simp; omega)) _ | refine Ext.trans (by assumption) ?_)))) Try.underlying32 rfl hi32 ?_)
    refine (HP.out _ _ _ (h.ext (k1.trans k2))).mono ?_
    rintro e3 w3 ⟨⟨A3, c3, rfl, h3⟩, hx3⟩
    have k3 : Ext w2 w3 := Ext.trans ((by repeat (first | assumption | exact Ext.refl _ | refine Ext.alloc ?_ _ | refine Ext.drew ?_ | refine Ext.drewN ?_ _ | refine Ext.setCell ?_ (by first | (simp; done) | omega | (simp; omega)) _ | refine Ext.trans (by assumption) ?_))) hx3
    replace vf := k3.free v0 vf
    replace v0 := k3.cell v0
    replace v1 := k3.cell v1
    replace vl := lt_of_cell v0
    replace rR := rangeAt_ext rR k3
    go_wp2_with (refine wpList_load_mid rfl 32 _ rfl _ _ rfl (rootC r) _ (rangeAt_ext rR ((by repeat (first | assumption | exact Ext.refl _ | refine Ext.alloc ?_ _ | refine Ext.drew ?_ | refine Ext.drewN ?_ _ | refine Ext.setCell ?_ (by first | (simp; done) | omega | (simp; omega)) _ | refine Ext.trans (by assumption) ?_)))) Try.underlying32 rfl hi32 ?_)
    refine (HP2.out _ _ _ (h3.ext ((by repeat (first | assumption | exact Ext.refl _ | refine Ext.alloc ?_ _ | refine Ext.drew ?_ | refine Ext.drewN ?_ _ | refine Ext.setCell ?_ (by first | (simp; done) | omega | (simp; omega)) _ | refine Ext.trans (by assumption) ?_))))).mono ?_
    rintro e4 w4 ⟨⟨A4, c4, rfl, h4⟩, hx4⟩
    have k4 : Ext w3 w4 := Ext.trans ((by repeat (first | assumption | exact Ext.refl _ | refine Ext.alloc ?_ _ | refine Ext.drew ?_ | refine Ext.drewN ?_ _ | refine Ext.setCell ?_ (by first | (simp; done) | omega | (simp; omega)) _ | refine Ext.trans (by assumption) ?_))) hx4
    obtain ⟨b0, b1, bf⟩ := hx4.box2 (B := w3.heap.size) (a := .slice A3 n c3) (b := .int .u64 o1) (by first | (simp; done) | (simp (maxDischargeDepth := 7) [go_sem]; done)) (by first | (simp; done) | (simp (maxDischargeDepth := 7) [go_sem]; done)) (by first | (simp; done) | (simp (maxDischargeDepth := 7) [go_sem]; done))
    have bl := lt_of_cell b0
    replace vf := k4.free v0 vf
    replace v0 := k4.cell v0
    replace v1 := k4.cell v1
    replace vl := lt_of_cell v0
    replace rR := rangeAt_ext rR k4
    go_wp2_with fail
    refine (same_self LS1 o1 A4 n c4 A3 n c3 _ (h4.ext ((by repeat (first | assumption | exact Ext.refl _ | refine Ext.alloc ?_ _ | refine Ext.drew ?_ | refine Ext.drewN ?_ _ | refine Ext.setCell ?_ (by first | (simp; done) | omega | (simp; omega)) _ | refine Ext.trans (by assumption) ?_)))) (h3.ext (k4.trans ((by repeat (first | assumption | exact Ext.refl _ | refine Ext.alloc ?_ _ | refine Ext.drew ?_ | refine Ext.drewN ?_ _ | refine Ext.setCell ?_ (by first | (simp; done) | omega | (simp; omega)) _ | refine Ext.trans (by assumption) ?_)))))).mono ?_
    rintro e5 w5 ⟨rfl, hx5⟩
    have k5 : Ext w4 w5 := Ext.trans ((by repeat (first | assumption | exact Ext.refl _ | refine Ext.alloc ?_ _ | refine Ext.drew ?_ | refine Ext.drewN ?_ _ | refine Ext.setCell ?_ (by first | (simp; done) | omega | (simp; omega)) _ | refine Ext.trans (by assumption) ?_))) hx5
    replace bf := k5.free b0 bf
    replace b0 := k5.cell b0
    replace b1 := k5.cell b1
    replace bl := lt_of_cell b0
    replace vf := k5.free v0 vf
    replace v0 := k5.cell v0
    replace v1 := k5.cell v1
    replace vl := lt_of_cell v0
    have kw : Ext w w5 := k1.trans (k2.trans (k3.trans (k4.trans k5)))
    have k7 : Ext w5 w5 := Ext.refl _
    have h1 := h3.ext (k4.trans k5)
    have h0 := h.ext kw
    clear HA HM HP HP2
    obtain ⟨bb, ob, rfl, h1r, hok1⟩ := h1.at' hin
    obtain ⟨bv, ov, rfl, h0r, hok0⟩ := h0.at' hin
    obtain ⟨x, hx⟩ : ∃ x, LS.getD i Lat.none = x := ⟨_, rfl⟩
    rw [hx] at h0r hok0
    have hi34 : (Try.prog.info? 34).map (·.size) = some x.cells.length := by rw [Lat.len hok0]; kernel_rfl
    have hq : ∀ W, (binOp .eql 34 (.agg x.cells.toArray) (.agg x.cells.toArray)).run Try.prog W = .ok (.bool true) W := fun W => Lat.eql hok0 hok0 (b := true) (by simp) W
    have HSV := Lib.hid (fun (hk0 : kk = 0) W (k : Ext w5 W) => (by obtain ⟨rfl, rfl⟩ := HI.out hk0; exact same_self LS1 o1 (some ⟨bb, ob, none⟩) n c3 (some ⟨bv, ov, none⟩) n c W (h1.ext k) (h0.ext k) : Calls Try.prog 13 #[.agg #[.slice (some ⟨bb, ob, none⟩) n c3, .int .u64 o1], .agg #[.slice (some ⟨bv, ov, none⟩) n c, .int .u64 o]] W fun e w' => e = .returned (.bool true) ∧ Ext W w'))
    by_cases hk0 : kk = 0
    · subst hk0
      have HSW := Lib.hid (HSV.out rfl)
      clear HSV
      by_cases hik : i = k
      · subst hik
        go_wp2
        have z0 := fun p => cell_in b0 p
        have z1 := fun p => cell_in b1 p
        have y0 := fun p => cell_in v0 p
        have y1 := fun p => cell_in v1 p
        refine wp_region_quiet_below (by kernel_rfl) (by kernel_rfl) ?_
        repeat (first | go_big_quiet_skip | (go_big_quiet_want; first | ((first | (refine quiet_load_mid 34 _ rfl _ _ rfl x.cells _ (fun W ⟨p, hp⟩ => hp ▸ rangeAt_ext h1r (ext_regrown _ p)) Try.underlying34 rfl hi34 ?_) | (refine quiet_load_mid 34 _ rfl _ _ rfl x.cells _ (fun W ⟨p, hp⟩ => hp ▸ rangeAt_ext h0r (ext_regrown _ p)) Try.underlying34 rfl hi34 ?_)); (try simp only [Act.put, List.setIfInBounds_toArray, List.set_cons_zero, List.set_cons_succ]); go_big_quiet_on) | (go_big_quiet_op; first | go_big_quiet_on | go_big_quiet_call ((go_at_call 13; exact regrown_ext (HSW.out _ (Ext.trans k7 (ext_regrown _ _))))))))
        refine wpQuiet_nil ?_
        intro _ hw'
        obtain ⟨pq, hw''⟩ := hw'
        subst hw''
        go_wp2
        go_ret
        exact ⟨rfl, kw.trans (ext_regrown _ _)⟩
      · have gik : ((i : Int) == k) = false := by simp; omega
        rw [HX.out i hik, hx] at h1r
        go_wp2
        have z0 := fun p => cell_in b0 p
        have z1 := fun p => cell_in b1 p
        have y0 := fun p => cell_in v0 p
        have y1 := fun p => cell_in v1 p
        refine wp_region_quiet_below (by kernel_rfl) (by kernel_rfl) ?_
        repeat (first | go_big_quiet_skip | (go_big_quiet_want; first | ((first | (refine quiet_load_mid 34 _ rfl _ _ rfl x.cells _ (fun W ⟨p, hp⟩ => hp ▸ rangeAt_ext h1r (ext_regrown _ p)) Try.underlying34 rfl hi34 ?_) | (refine quiet_load_mid 34 _ rfl _ _ rfl x.cells _ (fun W ⟨p, hp⟩ => hp ▸ rangeAt_ext h0r (ext_regrown _ p)) Try.underlying34 rfl hi34 ?_)); (try simp only [Act.put, List.setIfInBounds_toArray, List.set_cons_zero, List.set_cons_succ]); go_big_quiet_on) | (go_big_quiet_op; first | go_big_quiet_on | go_big_quiet_call ((go_at_call 13; exact regrown_ext (HSW.out _ (Ext.trans k7 (ext_regrown _ _))))))))
        refine wpQuiet_nil ?_
        intro _ hw'
        obtain ⟨pq, hw''⟩ := hw'
        subst hw''
        go_wp2
        go_ret
        exact ⟨rfl, kw.trans (ext_regrown _ _)⟩
    · have gk : (kk != 0) = true := by simpa using hk0
      clear HSV
      by_cases hik : i = k
      · subst hik
        go_wp2
        have z0 := fun p => cell_in b0 p
        have z1 := fun p => cell_in b1 p
        have y0 := fun p => cell_in v0 p
        have y1 := fun p => cell_in v1 p
        refine wp_region_quiet_below (by kernel_rfl) (by kernel_rfl) ?_
        repeat (first | go_big_quiet_skip | (go_big_quiet_want; first | ((first | (refine quiet_load_mid 34 _ rfl _ _ rfl x.cells _ (fun W ⟨p, hp⟩ => hp ▸ rangeAt_ext h1r (ext_regrown _ p)) Try.underlying34 rfl hi34 ?_) | (refine quiet_load_mid 34 _ rfl _ _ rfl x.cells _ (fun W ⟨p, hp⟩ => hp ▸ rangeAt_ext h0r (ext_regrown _ p)) Try.underlying34 rfl hi34 ?_)); (try simp only [Act.put, List.setIfInBounds_toArray, List.set_cons_zero, List.set_cons_succ]); go_big_quiet_on) | (go_big_quiet_op; first | go_big_quiet_on | go_big_quiet_call ((go_at_call 13; exact regrown_ext (HSW.out _ (Ext.trans k7 (ext_regrown _ _))))))))
        refine wpQuiet_nil ?_
        intro _ hw'
        obtain ⟨pq, hw''⟩ := hw'
        subst hw''
        go_wp2
        go_ret
        exact ⟨rfl, kw.trans (ext_regrown _ _)⟩
      · have gik : ((i : Int) == k) = false := by simp; omega
        rw [HX.out i hik, hx] at h1r
        go_wp2
        have z0 := fun p => cell_in b0 p
        have z1 := fun p => cell_in b1 p
        have y0 := fun p => cell_in v0 p
        have y1 := fun p => cell_in v1 p
        refine wp_region_quiet_below (by kernel_rfl) (by kernel_rfl) ?_
        repeat (first | go_big_quiet_skip | (go_big_quiet_want; first | ((first | (refine quiet_load_mid 34 _ rfl _ _ rfl x.cells _ (fun W ⟨p, hp⟩ => hp ▸ rangeAt_ext h1r (ext_regrown _ p)) Try.underlying34 rfl hi34 ?_) | (refine quiet_load_mid 34 _ rfl _ _ rfl x.cells _ (fun W ⟨p, hp⟩ => hp ▸ rangeAt_ext h0r (ext_regrown _ p)) Try.underlying34 rfl hi34 ?_)); (try simp only [Act.put, List.setIfInBounds_toArray, List.set_cons_zero, List.set_cons_succ]); go_big_quiet_on) | (go_big_quiet_op; first | go_big_quiet_on | go_big_quiet_call ((go_at_call 13; exact regrown_ext (HSW.out _ (Ext.trans k7 (ext_regrown _ _))))))))
        refine wpQuiet_nil ?_
        intro _ hw'
        obtain ⟨pq, hw''⟩ := hw'
        subst hw''
        go_wp2
        go_ret
        exact ⟨rfl, kw.trans (ext_regrown _ _)⟩
set_option maxRecDepth 100000 in
theorem VoteOne_lifted (os : Os) (started : os.Started) (H : Type) (enc : TypeId × Value → H) :
    ReturnsInHanded {} Try.checked os 4 .any (Rows.voteOneSpec.pre6 enc Try.prog Try.f4 Rows.voteOneRow.domain false) (Rows.voteOneSpec.post enc Try.prog Try.f4 false true false false) := by
  refine returnsInHanded_of_change_sized (C := Try.checked) own started (by kernel_rfl) Try.func4
    (ChangeSpec.witness6 (enc := enc) (C := Try.checked) false ⟨#[], #[.agg #[.slice none 0 0, .int .u64 0], .int .i64 0, .agg (rootC zeroR).toArray, .int .u64 0, .int .i64 0], []⟩ 8 (by kernel_rfl) (by kernel_rfl) (by kernel_rfl) (by kernel_rfl)) ?_
  intro W base args ds gs before hval0 hW _hcnd hsz0 _
  have hval : ∀ (j : Nat) t v, Try.f4.params[j]? = some t → args[j]? = some v → Value.okWide Try.prog W .any base t v := hval0
  have hsz : (DataW.weightsEach Try.prog (Try.f4.params.toList ++ Rows.voteOneSpec.plain.varTypes Try.prog) (ds ++ gs)).all (· ≤ reachBytes) = true := hsz0
  have hW' := hW
  obtain ⟨p, q, hA0, hV, rfl, hfz, hnd⟩ := hW
  have hA : DataW.TrodAll enc Try.prog W 0 (fun _ => true) true Try.f4.params.toList args.toList ds p := hA0
  rw [Try.params4] at hA hval hsz
  obtain ⟨v0, vs0, d0, ds0, p0, q0, hargs, rfl, rfl, h0, r0⟩ := trodAll_cons hA
  obtain ⟨v1, vs1, d1, ds1, p1, q1, rfl, rfl, rfl, h1, r1⟩ := trodAll_cons r0
  obtain ⟨v2, vs2, d2, ds2, p2, q2, rfl, rfl, rfl, h2, r2⟩ := trodAll_cons r1
  obtain ⟨v3, vs3, d3, ds3, p3, q3, rfl, rfl, rfl, h3, r3⟩ := trodAll_cons r2
  obtain ⟨v4, vs4, d4, ds4, p4, q4, rfl, rfl, rfl, h4, r4⟩ := trodAll_cons r3
  obtain ⟨rfl, rfl, rfl⟩ := trodAll_nil r4
  obtain rfl : args = #[v0, v1, v2, v3, v4] := by cases args; simp_all
  obtain ⟨rfl, rfl⟩ := trodVars_none hV
  have h0k := h0
  have h1k := h1
  have h2k := h2
  have h3k := h3
  have h4k := h4
  have hlt0 : ∀ x ∈ p0, x.block < W.heap.size := fun x hx => by have := hW'.lt x (by simp [hx]); simpa using this
  have hlt1 : ∀ x ∈ p1, x.block < W.heap.size := fun x hx => by have := hW'.lt x (by simp [hx]); simpa using this
  have hlt2 : ∀ x ∈ p2, x.block < W.heap.size := fun x hx => by have := hW'.lt x (by simp [hx]); simpa using this
  have hlt3 : ∀ x ∈ p3, x.block < W.heap.size := fun x hx => by have := hW'.lt x (by simp [hx]); simpa using this
  have hlt4 : ∀ x ∈ p4, x.block < W.heap.size := fun x hx => by have := hW'.lt x (by simp [hx]); simpa using this
  obtain ⟨vA, vn, vc, v, vo, rfl, hv, hov⟩ := open_votes (hval 0 28 v0 rfl rfl) h0 hsz (j := 0) rfl rfl
  obtain ⟨val, rfl, hval1, hval2⟩ := open_I64 Try.underlying3 (hval 1 3 v1 rfl rfl) h1
  obtain ⟨r, rfl, hr⟩ := open_root (hval 2 32 v2 rfl rfl) h2
  obtain ⟨e, rfl, he⟩ := open_U64 Try.underlying26 (hval 3 26 v3 rfl rfl) h3
  obtain ⟨other, rfl, hother1, hother2⟩ := open_I64 Try.underlying3 (hval 4 3 v4 rfl rfl) h4
  clear hA0 hval0
  simp only [List.append_nil] at hW'
  refine (VoteOne_walk vA vn vc v vo hov hv val hval1 hval2 r hr e he other hother1 hother2 (w := W)).mono fun e W' ⟨he, hg⟩ => ?_
  subst he
  exact ⟨_, rfl, post_law (pa := p0 ++ (p1 ++ (p2 ++ (p3 ++ (p4 ++ []))))) (pv := []) hW' (fun _ _ _ => (trodAll_cons_mk (shut_bool Try.underlying4 _) trodAll_mk0))
    (trodAll_cons_mk (Below.trod laidOut (by kernel_rfl) (of_decide_eq_true (by kernel_rfl)) h0k hg.out hlt0) (trodAll_cons_mk (Below.trod laidOut (by kernel_rfl) (of_decide_eq_true (by kernel_rfl)) h1k hg.out hlt1) (trodAll_cons_mk (Below.trod laidOut (by kernel_rfl) (of_decide_eq_true (by kernel_rfl)) h2k hg.out hlt2) (trodAll_cons_mk (Below.trod laidOut (by kernel_rfl) (of_decide_eq_true (by kernel_rfl)) h3k hg.out hlt3) (trodAll_cons_mk (Below.trod laidOut (by kernel_rfl) (of_decide_eq_true (by kernel_rfl)) h4k hg.out hlt4) trodAll_mk0))))) rfl (by simp) hg⟩
theorem VoteOne_holds : Rows.VoteOneSaid :=
  OpenClaim.holds_of_wide 4 Try.f4 rfl rfl rfl rfl rfl rfl rfl ⟨rfl, rfl, rfl, rfl, rfl⟩ rfl rfl rfl rfl rfl (by kernel_rfl) Try.func4 (by kernel_rfl)
    (of_decide_eq_true (by kernel_rfl)) (by unfold Func.isWrapper; first | (rw [if_pos (by decide +kernel)]; kernel_rfl) | (rw [if_neg (by decide +kernel)]; exact ⟨rfl, rfl⟩))
    (fun os started H enc _ => VoteOne_lifted os started H enc)
#print axioms VoteOne_holds
end Go.Proofs.Ytnpopepannimiaa
