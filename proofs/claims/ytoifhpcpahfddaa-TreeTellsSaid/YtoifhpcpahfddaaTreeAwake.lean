/- The chapter's example of layer 6. -/
import Derived.Test.YtoifhpcpahfddaaTreeCut
import Derived.Test.YtoifhpcpahfddaaTreeThree
namespace Go.Proofs.Ytoifhpcpahfddaa
open Go.RowKit Go.WideShapes Go.ChangeShapes
set_option linter.unusedVariables false
set_option linter.unusedSimpArgs false





def C3 : List Node := [⟨rootN 2, -1, 3, 0⟩, ⟨rootN 3, 0, 5, 0⟩]
theorem C3_eq : Tree.cutV T3 1 = C3 := by decide +kernel
set_option maxHeartbeats 2000000 in
theorem awake_any (w : World) : Calls Try.prog 11 #[] w fun e w' => e = .returned (.bool true) ∧ Ext w w' := by
  have H3 := Lib.hid (fun W => three_any W)
  have HC := Lib.hid (fun A c W (h : NL W A 3 c T3) => (by have k := cut_any A 3 c T3 1 (by decide) W h; rw [C3_eq] at k; exact k : Calls Try.prog 15 #[.agg #[.slice A 3 c], .int .i64 1] W fun e w' => (∃ A2 m c2, e = .returned (.agg #[.slice A2 m c2]) ∧ NL w' A2 m c2 C3) ∧ Ext W w'))
  have HM := Lib.hid (fun A c W (h : NL W A 3 c T3) => treeMay_is A 3 c T3 true (by decide +kernel) W h)
  have HA := Lib.hid (fun A c W (h : NL W A 3 c T3) => (by have k := above_any A 3 c T3 0 2 (by decide) (by decide) W h; rw [show Tree.aboveV T3 0 2 = true from by decide +kernel] at k; exact k : Calls Try.prog 13 #[.agg #[.slice A 3 c], .int .i64 0, .int .i64 2] W fun e w' => e = .returned (.bool true) ∧ Ext W w'))
  have HT := Lib.hid (fun A c W (h : NL W A 3 c T3) => (by have k := at_any A 3 c T3 2 (by decide) 4 (by decide) W h; rw [show Tree.atV T3 2 4 = 1 from by decide +kernel] at k; exact k : Calls Try.prog 14 #[.agg #[.slice A 3 c], .int .i64 2, .int .u64 4] W fun e w' => e = .returned (.int .i64 1) ∧ Ext W w'))
  have HF := Lib.hid (fun A c W (h : NL W A 3 c T3) => (by have k := find_any A 3 c T3 (rootN 3) (rootN_ok (by decide)) W h; rw [show Tree.findV T3 (rootN 3) = 2 from by decide +kernel] at k; exact k : Calls Try.prog 16 #[.agg #[.slice A 3 c], .agg (rootC (rootN 3)).toArray] W fun e w' => e = .returned (.int .i64 2) ∧ Ext W w'))
  have HK := Lib.hid (fun A c W (h : NL W A 3 c T3) => (by have k := kids_any A 3 c T3 0 (by decide) W h; rw [show Tree.kidsV T3 0 = [1] from by decide +kernel] at k; exact k : Calls Try.prog 17 #[.agg #[.slice A 3 c], .int .i64 0] W fun e w' => (∃ v, e = .returned v ∧ IsInts w' .i64 v [1]) ∧ Ext W w'))
  go_enter Try.func11, Try.ntmps11
  go_wp2_with fail
  refine (H3.out _).mono ?_
  rintro e w1 ⟨⟨A, c, rfl, h1⟩, hx1⟩
  have k1 : Ext w w1 := hx1
  go_wp2_with fail
  refine (HC.out _ _ _ (h1.ext ((by repeat (first | assumption | exact Ext.refl _ | refine Ext.alloc ?_ _ | refine Ext.drew ?_ | refine Ext.drewN ?_ _ | refine Ext.setCell ?_ (by first | (simp; done) | omega | (simp; omega)) _ | refine Ext.trans (by assumption) ?_))))).mono ?_
  rintro e w2 ⟨⟨A2, m, c2, rfl, h2⟩, hx2⟩
  obtain rfl : 2 = m := h2.len
  have k2 : Ext w1 w2 := Ext.trans ((by repeat (first | assumption | exact Ext.refl _ | refine Ext.alloc ?_ _ | refine Ext.drew ?_ | refine Ext.drewN ?_ _ | refine Ext.setCell ?_ (by first | (simp; done) | omega | (simp; omega)) _ | refine Ext.trans (by assumption) ?_))) hx2
  have t0 := hx2.cell (p := ⟨w1.heap.size, 0, none⟩) (v := .slice A 3 c) (by first | (simp; done) | (simp (maxDischargeDepth := 7) [go_sem]; done))
  have tl := lt_of_cell t0
  have H1 := Lib.hid (fun W (k : Ext w2 W) => h1.ext (k2.trans k))
  go_wp2_with fail
  refine (HM.out _ _ _ (H1.out _ ((by repeat (first | assumption | exact Ext.refl _ | refine Ext.alloc ?_ _ | refine Ext.drew ?_ | refine Ext.drewN ?_ _ | refine Ext.setCell ?_ (by first | (simp; done) | omega | (simp; omega)) _ | refine Ext.trans (by assumption) ?_))))).mono ?_
  rintro e w3 ⟨rfl, hx3⟩
  have k3 : Ext w2 w3 := Ext.trans ((by repeat (first | assumption | exact Ext.refl _ | refine Ext.alloc ?_ _ | refine Ext.drew ?_ | refine Ext.drewN ?_ _ | refine Ext.setCell ?_ (by first | (simp; done) | omega | (simp; omega)) _ | refine Ext.trans (by assumption) ?_))) hx3
  have c0 := hx3.cell (p := ⟨w2.heap.size, 0, none⟩) (v := .slice A2 2 c2) (by first | (simp; done) | (simp (maxDischargeDepth := 7) [go_sem]; done))
  replace t0 := k3.cell t0
  go_wp2_with fail
  refine (HA.out _ _ _ (H1.out _ k3)).mono ?_
  rintro e w4 ⟨rfl, hx4⟩
  have k4 : Ext w2 w4 := k3.trans hx4
  replace t0 := hx4.cell t0
  replace c0 := hx4.cell c0
  go_wp2_with fail
  refine (HT.out _ _ _ (H1.out _ k4)).mono ?_
  rintro e w5 ⟨rfl, hx5⟩
  have k5 : Ext w2 w5 := k4.trans hx5
  replace t0 := hx5.cell t0
  replace c0 := hx5.cell c0
  go_wp2_with fail
  refine (HF.out _ _ _ (H1.out _ k5)).mono ?_
  rintro e w6 ⟨rfl, hx6⟩
  have k6 : Ext w2 w6 := k5.trans hx6
  replace t0 := hx6.cell t0
  replace c0 := hx6.cell c0
  obtain ⟨b, off, rfl, hr, hok⟩ := (h2.ext k6).at' (i := 1) (by omega)
  have d0 := rangeAt_head hr (Node.at32 hok)
  change w6.cell? _ = some (.int .i64 0) at d0
  clear hr hok
  go_wp2_with fail
  refine (HK.out _ _ _ (H1.out _ k6)).mono ?_
  rintro e w7 ⟨⟨v, rfl, ⟨A7, n7, c7, rfl, h7⟩⟩, hx7⟩
  obtain rfl : 1 = n7 := h7.len
  go_wp2
  go_ret
  exact ⟨rfl, k1.trans (k2.trans (k6.trans hx7))⟩
end Go.Proofs.Ytoifhpcpahfddaa
