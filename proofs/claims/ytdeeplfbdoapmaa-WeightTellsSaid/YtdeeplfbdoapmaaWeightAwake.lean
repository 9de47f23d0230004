/- The chapter's example of layer 8. -/
import Derived.Test.YtdeeplfbdoapmaaWeightPass
import Derived.Test.YtdeeplfbdoapmaaTreeThree
namespace Go.Proofs.Ytdeeplfbdoapmaa
open Go.RowKit Go.WideShapes Go.ChangeShapes
set_option linter.unusedVariables false
set_option linter.unusedSimpArgs false
theorem sub3_eq : Weight.subV T3 [1, 2, 3] = some [6, 5, 3] := by decide +kernel
theorem pass3_eq : Weight.passV T3 [6, 5, 3] [0, 0, 4] [1, 0, 0] = some [9, 9, 7] := by decide +kernel
set_option maxHeartbeats 2000000 in
theorem awake_any (w : World) : Calls Try.prog 9 #[] w fun e w' => e = .returned (.bool true) ∧ Ext w w' := by
  have H3 := Lib.hid (fun W => three_any W)
  have HS := Lib.hid (fun A c B W (h : NL W A 3 c T3) (g : Ints W .u64 B 3 3 [1, 2, 3]) => (by have k := sub_w_any A 3 c T3 B 3 3 [1, 2, 3] W h g; rw [sub3_eq] at k; exact k : Calls Try.prog 10 #[.agg #[.slice A 3 c], .slice B 3 3] W fun e w' => (∃ v, e = .returned (.tuple #[v, .bool true]) ∧ IsInts w' .u64 v [6, 5, 3]) ∧ Ext W w'))
  have HP := Lib.hid (fun A c WA wc B C W (h : NL W A 3 c T3) (g0 : Ints W .u64 WA 3 wc [6, 5, 3]) (g : Ints W .u64 B 3 3 [0, 0, 4]) (g2 : Ints W .u64 C 3 3 [1, 0, 0]) => (by have k := pass_any A 3 c T3 WA 3 wc [6, 5, 3] B 3 3 [0, 0, 4] C 3 3 [1, 0, 0] W h g0 g g2; rw [pass3_eq] at k; exact k : Calls Try.prog 12 #[.agg #[.slice A 3 c], .slice WA 3 wc, .slice B 3 3, .slice C 3 3] W fun e w' => (∃ v, e = .returned (.tuple #[v, .bool true]) ∧ IsInts w' .u64 v [9, 9, 7]) ∧ Ext W w'))
  have HR := Lib.hid (fun A c B W (l : List Int) (h : Ints W .u64 A 3 c l) (g : Ints W .u64 B 3 3 l) => (by have k := rsame64_any A 3 c B 3 3 l l W h g; rw [decide_eq_true rfl] at k; exact k : Calls Try.prog 14 #[.slice A 3 c, .slice B 3 3] W fun e w' => e = .returned (.bool true) ∧ Ext W w'))
  have HW := Lib.hid (fun A c W (l : List Int) (h : Ints W .u64 A 3 c l) => (by have k := wsame_any A 3 c A 3 c l l W h h; rw [decide_eq_true rfl] at k; exact k : Calls Try.prog 15 #[.slice A 3 c, .slice A 3 c] W fun e w' => e = .returned (.bool true) ∧ Ext W w'))
  go_enter Try.func9, Try.ntmps9
  go_wp2_with fail
  refine (H3.out _).mono ?_
  rintro e w1 ⟨⟨A, c, rfl, h1⟩, hx1⟩
  have H1 := Lib.hid (fun W (k : Ext w1 W) => h1.ext k)
  have B1 : Ext w w1 := hx1
  go_wp2_with fail
  refine (HS.out _ _ _ _ (H1.out _ ((by repeat (first | assumption | exact Ext.refl _ | refine Ext.alloc ?_ _ | refine Ext.drew ?_ | refine Ext.drewN ?_ _ | refine Ext.setCell ?_ (by first | (simp; done) | omega | (simp; omega)) _ | refine Ext.trans (by assumption) ?_)))) (ints_at' [1, 2, 3] (by decide) (by decide) (by simp))).mono ?_
  rintro e w2 ⟨⟨v, rfl, ⟨VA, vn, vc, rfl, h2⟩⟩, hx2⟩
  obtain rfl : 3 = vn := h2.len
  have k2 : Ext w1 w2 := Ext.trans ((by repeat (first | assumption | exact Ext.refl _ | refine Ext.alloc ?_ _ | refine Ext.drew ?_ | refine Ext.drewN ?_ _ | refine Ext.setCell ?_ (by first | (simp; done) | omega | (simp; omega)) _ | refine Ext.trans (by assumption) ?_))) hx2
  have t0 := hx2.cell (p := ⟨w1.heap.size, 0, none⟩) (v := .slice A 3 c) (by first | (simp; done) | (simp (maxDischargeDepth := 7) [go_sem]; done))
  have H2 := Lib.hid (fun W (k : Ext w2 W) => h2.ext k)
  have tl := lt_of_cell t0
  go_wp2_with fail
  refine (HP.out _ _ _ _ _ _ _ (H1.out _ (Ext.trans k2 ((by repeat (first | assumption | exact Ext.refl _ | refine Ext.alloc ?_ _ | refine Ext.drew ?_ | refine Ext.drewN ?_ _ | refine Ext.setCell ?_ (by first | (simp; done) | omega | (simp; omega)) _ | refine Ext.trans (by assumption) ?_))))) (H2.out _ ((by repeat (first | assumption | exact Ext.refl _ | refine Ext.alloc ?_ _ | refine Ext.drew ?_ | refine Ext.drewN ?_ _ | refine Ext.setCell ?_ (by first | (simp; done) | omega | (simp; omega)) _ | refine Ext.trans (by assumption) ?_)))) ((ints_at' (e := 33) [0, 0, 4] (by decide) (by decide) (by simp)).ext ((Ext.refl _).alloc _)) (ints_at' [1, 0, 0] (by decide) (by decide) (by simp))).mono ?_
  rintro e w3 ⟨⟨v, rfl, ⟨PA, pn, pc, rfl, h3⟩⟩, hx3⟩
  obtain rfl : 3 = pn := h3.len
  have k3 : Ext w2 w3 := Ext.trans ((by repeat (first | assumption | exact Ext.refl _ | refine Ext.alloc ?_ _ | refine Ext.drew ?_ | refine Ext.drewN ?_ _ | refine Ext.setCell ?_ (by first | (simp; done) | omega | (simp; omega)) _ | refine Ext.trans (by assumption) ?_))) hx3
  go_wp2_with fail
  refine (HR.out _ _ _ _ [6, 5, 3] (H2.out _ ((by repeat (first | assumption | exact Ext.refl _ | refine Ext.alloc ?_ _ | refine Ext.drew ?_ | refine Ext.drewN ?_ _ | refine Ext.setCell ?_ (by first | (simp; done) | omega | (simp; omega)) _ | refine Ext.trans (by assumption) ?_)))) (ints_at' [6, 5, 3] (by decide) (by decide) (by simp))).mono ?_
  rintro e w4 ⟨rfl, hx4⟩
  have k4 : Ext w3 w4 := Ext.trans ((by repeat (first | assumption | exact Ext.refl _ | refine Ext.alloc ?_ _ | refine Ext.drew ?_ | refine Ext.drewN ?_ _ | refine Ext.setCell ?_ (by first | (simp; done) | omega | (simp; omega)) _ | refine Ext.trans (by assumption) ?_))) hx4
  go_wp2_with fail
  refine (HR.out _ _ _ _ [9, 9, 7] (h3.ext ((by repeat (first | assumption | exact Ext.refl _ | refine Ext.alloc ?_ _ | refine Ext.drew ?_ | refine Ext.drewN ?_ _ | refine Ext.setCell ?_ (by first | (simp; done) | omega | (simp; omega)) _ | refine Ext.trans (by assumption) ?_)))) (ints_at' [9, 9, 7] (by decide) (by decide) (by simp))).mono ?_
  rintro e w5 ⟨rfl, hx5⟩
  have k5 : Ext w4 w5 := Ext.trans ((by repeat (first | assumption | exact Ext.refl _ | refine Ext.alloc ?_ _ | refine Ext.drew ?_ | refine Ext.drewN ?_ _ | refine Ext.setCell ?_ (by first | (simp; done) | omega | (simp; omega)) _ | refine Ext.trans (by assumption) ?_))) hx5
  go_wp2_with fail
  refine (HW.out _ _ _ [6, 5, 3] (H2.out _ (k3.trans (k4.trans k5)))).mono ?_
  rintro e w6 ⟨rfl, hx6⟩
  go_wp2
  go_ret
  exact ⟨rfl, B1.trans (k2.trans (k3.trans (k4.trans (k5.trans hx6))))⟩
end Go.Proofs.Ytdeeplfbdoapmaa
