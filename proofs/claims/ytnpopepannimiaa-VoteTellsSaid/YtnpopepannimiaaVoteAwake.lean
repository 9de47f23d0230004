/- The chapter's example of layer 12. -/
import Derived.Test.YtnpopepannimiaaVoteSame
namespace Go.Proofs.Ytnpopepannimiaa
open Go.RowKit Go.WideShapes Go.ChangeShapes
set_option linter.unusedVariables false
set_option linter.unusedSimpArgs false









def rootOf (k : Int) : List Int := k :: List.replicate 31 0
theorem rootOf_ok {k : Int} (h : 0 ≤ k ∧ k ≤ 255) : RootOk (rootOf k) := by
  refine ⟨rfl, fun x hx => ?_⟩
  unfold rootOf at hx
  rcases List.mem_cons.1 hx with rfl | hx
  · simp [Lit.wf, IntKind.min, IntKind.max, IntKind.signed, IntKind.bits]; omega
  · rw [(List.mem_replicate.1 hx).2]; decide
theorem new_one (W : World) : Calls Try.prog 10 #[.int .i64 1] W fun e w' => (∃ A c, e = .returned (.tuple #[.agg #[.slice A 1 c, .int .u64 0], .bool true]) ∧ VL w' A 1 c [Lat.none]) ∧ Ext W w' := by
  refine (new_any 1 W).mono ?_
  rintro e w1 ⟨⟨A, n, c, rfl, h⟩, hx⟩
  have hn : n = 1 := h.len.symm
  subst hn
  exact ⟨⟨A, c, rfl, h⟩, hx⟩
theorem put_one (A : Option Addr) (c : Nat) (W : World) (h : VL W A 1 c [Lat.none]) : Calls Try.prog 11 #[.agg #[.slice A 1 c, .int .u64 0], .int .i64 0, .agg #[.int .u8 1, Value.int .u8 0, Value.int .u8 0, Value.int .u8 0, Value.int .u8 0, Value.int .u8 0, Value.int .u8 0, Value.int .u8 0, Value.int .u8 0, Value.int .u8 0, Value.int .u8 0, Value.int .u8 0, Value.int .u8 0, Value.int .u8 0, Value.int .u8 0, Value.int .u8 0, Value.int .u8 0, Value.int .u8 0, Value.int .u8 0, Value.int .u8 0, Value.int .u8 0, Value.int .u8 0, Value.int .u8 0, Value.int .u8 0, Value.int .u8 0, Value.int .u8 0, Value.int .u8 0, Value.int .u8 0, Value.int .u8 0, Value.int .u8 0, Value.int .u8 0, Value.int .u8 0], .int .u64 2] W fun e w' => (∃ A c, e = .returned (.tuple #[.agg #[.slice A 1 c, .int .u64 0], .int .i64 1, .int .i64 0]) ∧ VL w' A 1 c [⟨true, rootOf 1, 2⟩]) ∧ Ext W w' := by
  have k := put_any A 1 c 0 (by decide) [Lat.none] 0 (rootOf 1) (rootOf_ok (by decide)) 2 (by decide) W h
  rw [show putV [Lat.none] 0 0 (rootOf 1) 2 = ([⟨true, rootOf 1, 2⟩], 0, 1, 0) from by decide] at k
  exact k
theorem put_two (A : Option Addr) (c : Nat) (W : World) (h : VL W A 1 c [⟨true, rootOf 1, 2⟩]) : Calls Try.prog 11 #[.agg #[.slice A 1 c, .int .u64 0], .int .i64 0, .agg #[.int .u8 2, Value.int .u8 0, Value.int .u8 0, Value.int .u8 0, Value.int .u8 0, Value.int .u8 0, Value.int .u8 0, Value.int .u8 0, Value.int .u8 0, Value.int .u8 0, Value.int .u8 0, Value.int .u8 0, Value.int .u8 0, Value.int .u8 0, Value.int .u8 0, Value.int .u8 0, Value.int .u8 0, Value.int .u8 0, Value.int .u8 0, Value.int .u8 0, Value.int .u8 0, Value.int .u8 0, Value.int .u8 0, Value.int .u8 0, Value.int .u8 0, Value.int .u8 0, Value.int .u8 0, Value.int .u8 0, Value.int .u8 0, Value.int .u8 0, Value.int .u8 0, Value.int .u8 0], .int .u64 2] W fun e w' => (∃ A c, e = .returned (.tuple #[.agg #[.slice A 1 c, .int .u64 1], .int .i64 2, .int .i64 0]) ∧ VL w' A 1 c [Lat.none]) ∧ Ext W w' := by
  have k := put_any A 1 c 0 (by decide) [⟨true, rootOf 1, 2⟩] 0 (rootOf 2) (rootOf_ok (by decide)) 2 (by decide) W h
  rw [show putV [⟨true, rootOf 1, 2⟩] 0 0 (rootOf 2) 2 = ([Lat.none], 1, 2, 0) from by decide] at k
  exact k
set_option maxHeartbeats 2000000 in
theorem awake_any (w : World) : Calls Try.prog 9 #[] w fun e w' => e = .returned (.bool true) ∧ Ext w w' := by
  have HN := Lib.hid (fun W => new_one W)
  have HP1 := Lib.hid (fun W A c (h : VL W A 1 c [Lat.none]) => put_one A c W h)
  have HP2 := Lib.hid (fun W A c (h : VL W A 1 c [⟨true, rootOf 1, 2⟩]) => put_two A c W h)
  have HM := Lib.hid (fun W A c (h : VL W A 1 c [Lat.none]) => (by have k := vmay_any A 1 c 1 (by decide) [Lat.none] W h; rw [show mayV [Lat.none] 1 = true from by decide] at k; exact k : Calls Try.prog 12 #[.agg #[.slice A 1 c, .int .u64 1]] W fun e w' => e = .returned (.bool true) ∧ Ext W w'))
  have HS := Lib.hid (fun W A c (h : VL W A 1 c [Lat.none]) => same_self [Lat.none] 1 A 1 c A 1 c W h h)
  go_enter Try.func9, Try.ntmps9
  go_wp2_with fail
  refine (HN.out _).mono ?_
  rintro e w1 ⟨⟨A1, c1, rfl, h1⟩, hx1⟩
  have k1 : Ext w w1 := hx1
  go_wp2_with fail
  refine (HP1.out _ _ _ (h1.ext ((by repeat (first | assumption | exact Ext.refl _ | refine Ext.alloc ?_ _ | refine Ext.drew ?_ | refine Ext.drewN ?_ _ | refine Ext.setCell ?_ (by first | (simp; done) | omega | (simp; omega)) _ | refine Ext.trans (by assumption) ?_))))).mono ?_
  rintro e w2 ⟨⟨A2, c2, rfl, h2⟩, hx2⟩
  have k2 : Ext w1 w2 := Ext.trans ((by repeat (first | assumption | exact Ext.refl _ | refine Ext.alloc ?_ _ | refine Ext.drew ?_ | refine Ext.drewN ?_ _ | refine Ext.setCell ?_ (by first | (simp; done) | omega | (simp; omega)) _ | refine Ext.trans (by assumption) ?_))) hx2
  go_wp2_with fail
  refine (HP2.out _ _ _ (h2.ext ((by repeat (first | assumption | exact Ext.refl _ | refine Ext.alloc ?_ _ | refine Ext.drew ?_ | refine Ext.drewN ?_ _ | refine Ext.setCell ?_ (by first | (simp; done) | omega | (simp; omega)) _ | refine Ext.trans (by assumption) ?_))))).mono ?_
  rintro e w3 ⟨⟨A3, c3, rfl, h3⟩, hx3⟩
  have k3 : Ext w2 w3 := Ext.trans ((by repeat (first | assumption | exact Ext.refl _ | refine Ext.alloc ?_ _ | refine Ext.drew ?_ | refine Ext.drewN ?_ _ | refine Ext.setCell ?_ (by first | (simp; done) | omega | (simp; omega)) _ | refine Ext.trans (by assumption) ?_))) hx3
  obtain ⟨b0, b1, bf⟩ := hx3.box2 (B := w2.heap.size) (a := .slice A2 1 c2) (b := .int .u64 0) (by first | (simp; done) | (simp (maxDischargeDepth := 7) [go_sem]; done)) (by first | (simp; done) | (simp (maxDischargeDepth := 7) [go_sem]; done)) (by first | (simp; done) | (simp (maxDischargeDepth := 7) [go_sem]; done))
  have bl := lt_of_cell b0
  obtain ⟨g, off, rfl, hr, -⟩ := (h2.ext k3).at' (i := 0) (by omega)
  have d0 := hr 0 (.bool true) rfl
  simp only [Nat.zero_mul, Nat.add_zero] at d0
  have dl := lt_of_cell d0
  clear hr
  go_wp2_with fail
  refine (HM.out _ _ _ (h3.ext ((by repeat (first | assumption | exact Ext.refl _ | refine Ext.alloc ?_ _ | refine Ext.drew ?_ | refine Ext.drewN ?_ _ | refine Ext.setCell ?_ (by first | (simp; done) | omega | (simp; omega)) _ | refine Ext.trans (by assumption) ?_))))).mono ?_
  rintro e w4 ⟨rfl, hx4⟩
  have k4 : Ext w3 w4 := Ext.trans ((by repeat (first | assumption | exact Ext.refl _ | refine Ext.alloc ?_ _ | refine Ext.drew ?_ | refine Ext.drewN ?_ _ | refine Ext.setCell ?_ (by first | (simp; done) | omega | (simp; omega)) _ | refine Ext.trans (by assumption) ?_))) hx4
  obtain ⟨o0, o1, of⟩ := hx4.box2 (B := w3.heap.size) (a := .slice A3 1 c3) (b := .int .u64 1) (by first | (simp; done) | (simp (maxDischargeDepth := 7) [go_sem]; done)) (by first | (simp; done) | (simp (maxDischargeDepth := 7) [go_sem]; done)) (by first | (simp; done) | (simp (maxDischargeDepth := 7) [go_sem]; done))
  have ol := lt_of_cell o0
  go_wp2_with fail
  refine (HS.out _ _ _ (h3.ext k4)).mono ?_
  rintro e w5 ⟨rfl, hx5⟩
  go_wp2
  go_ret
  exact ⟨rfl, k1.trans (k2.trans (k3.trans (k4.trans hx5)))⟩
end Go.Proofs.Ytnpopepannimiaa
