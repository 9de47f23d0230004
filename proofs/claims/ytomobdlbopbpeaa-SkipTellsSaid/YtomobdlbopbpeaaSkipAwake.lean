/- The chapter's example of layer 7, and '==' of rows of four numbers. -/
import Derived.Test.YtomobdlbopbpeaaSkipClimb
import Derived.Test.YtomobdlbopbpeaaTreeThree
namespace Go.Proofs.Ytomobdlbopbpeaa
open Go.RowKit Go.WideShapes Go.ChangeShapes
set_option linter.unusedVariables false
set_option linter.unusedSimpArgs false
def Row4 (r : List Int) : Prop := r.length = 4 ∧ ∀ x ∈ r, (Lit.int .i64 x).wf = true
def row4C (r : List Int) : List Value := r.map (Value.int .i64)
theorem row4C_inj {r s : List Int} : (row4C r).toArray = (row4C s).toArray ↔ r = s := by
  constructor
  · intro h
    have h' : row4C r = row4C s := by simpa using h
    unfold row4C at h'
    exact List.map_inj_right (fun a b e => by simpa using e) |>.1 h'
  · rintro rfl; rfl
theorem row4_keyT : KeyT Try.prog 41 := ⟨by kernel_rfl, by kernel_rfl, by kernel_rfl, by kernel_rfl⟩
theorem row4_keyed {r : List Int} (h : Row4 r) : Keyed Try.prog 41 (.agg (row4C r).toArray) := by
  refine keyed_of (by kernel_rfl) (by kernel_rfl) ?_ (lits_row Try.underlying41 Try.underlying3 (by kernel_rfl) (by kernel_rfl) (Try.prog.types.size - 1) h.1 h.2)
  unfold Value.formed
  rw [Try.underlying41]
  simp only [List.size_toArray, row4C, List.length_map, h.1]
  kernel_rfl
theorem row4_eql {r s : List Int} (h : Row4 r) (g : Row4 s) {b : Bool} (e : b = true ↔ r = s) (w : World) : (binOp .eql 41 (.agg (row4C r).toArray) (.agg (row4C s).toArray)).run Try.prog w = .ok (.bool b) w :=
  run_eql_key row4_keyT (row4_keyed h) (row4_keyed g) (by rw [e]; simp only [Value.agg.injEq]; exact row4C_inj.symm) w
theorem row4_neq {r s : List Int} (h : Row4 r) (g : Row4 s) {b : Bool} (e : b = true ↔ r = s) (w : World) : (binOp .neq 41 (.agg (row4C r).toArray) (.agg (row4C s).toArray)).run Try.prog w = .ok (.bool (!b)) w :=
  run_neq_key row4_keyT (row4_keyed h) (row4_keyed g) (by rw [e]; simp only [Value.agg.injEq]; exact row4C_inj.symm) w
theorem up_is (A : Option Addr) (n c : Nat) (NS : List Node) (i m x : Int) (hx : Skip.upV NS i m = x) (w : World) (h : NL w A n c NS) :
    Calls Try.prog 13 #[.agg #[.slice A n c], .int .i64 i, .int .i64 m] w fun e w' => e = .returned (.int .i64 x) ∧ Ext w w' := by subst hx; exact up_any A n c NS i m w h
theorem deep_is (A : Option Addr) (n c : Nat) (NS : List Node) (i x : Int) (hx : Skip.deepV NS i = x) (w : World) (h : NL w A n c NS) :
    Calls Try.prog 15 #[.agg #[.slice A n c], .int .i64 i] w fun e w' => e = .returned (.int .i64 x) ∧ Ext w w' := by subst hx; exact deep_any A n c NS i w h
theorem skat_is (A : Option Addr) (n c : Nat) (NS : List Node) (i : Int) (s : Nat) (hs : s < 18446744073709551616) (x : Int) (hx : Tree.atV NS i s = x) (w : World) (h : NL w A n c NS) :
    Calls Try.prog 17 #[.agg #[.slice A n c], .int .i64 i, .int .u64 s] w fun e w' => e = .returned (.int .i64 x) ∧ Ext w w' := by subst hx; exact skat_any A n c NS i s hs w h
theorem meet_is (A : Option Addr) (n c : Nat) (NS : List Node) (i k x : Int) (hx : Skip.meetV NS i k = x) (w : World) (h : NL w A n c NS) :
    Calls Try.prog 19 #[.agg #[.slice A n c], .int .i64 i, .int .i64 k] w fun e w' => e = .returned (.int .i64 x) ∧ Ext w w' := by subst hx; exact meet_any A n c NS i k w h
set_option maxRecDepth 100000 in
set_option maxHeartbeats 2000000 in
theorem awake_any (w : World) : Calls Try.prog 9 #[] w fun e w' => e = .returned (.bool true) ∧ Ext w w' := by
  have H3 := Lib.hid (fun W => three_any W)
  have HT := Lib.hid (fun B c W (h : NL W B 3 c T3) => Table_any B 3 c T3 true (by decide +kernel) W h)
  have HU := Lib.hid (fun B c W (h : NL W B 3 c T3) => up_is B 3 c T3 2 2 0 (by decide +kernel) W h)
  have HD := Lib.hid (fun B c W (h : NL W B 3 c T3) => deep_is B 3 c T3 2 2 (by decide +kernel) W h)
  have HA := Lib.hid (fun B c W (h : NL W B 3 c T3) => skat_is B 3 c T3 2 3 (by decide) 1 (by decide +kernel) W h)
  have HM := Lib.hid (fun B c W (h : NL W B 3 c T3) => meet_is B 3 c T3 1 2 1 (by decide +kernel) W h)
  have hi4 : (Try.prog.info? 41).map (·.size) = some (Skip.rowC T3 2).length := by kernel_rfl
  have hrow : Skip.rowC T3 2 = row4C [1, 0, -1, -1] := by
    have : Skip.rowI T3 2 = [1, 0, -1, -1] := by decide +kernel
    unfold Skip.rowC row4C
    rw [this]
  have heq : ∀ W, (binOp .eql 41 (.agg #[.int .i64 1, .int .i64 0, .int .i64 (-1), .int .i64 (-1)]) (.agg #[.int .i64 1, .int .i64 0, .int .i64 (-1), .int .i64 (-1)])).run Try.prog W = .ok (.bool true) W := fun W => row4_eql (r := [1, 0, -1, -1]) (s := [1, 0, -1, -1]) ⟨rfl, by decide⟩ ⟨rfl, by decide⟩ (b := true) (by simp) W
  rw [hrow] at hi4
  go_enter Try.func9, Try.ntmps9
  go_wp2_with fail
  refine (H3.out _).mono ?_
  rintro e w1 ⟨⟨A, c, rfl, h1⟩, hx1⟩
  have k1 : Ext w w1 := hx1
  have H1 := Lib.hid (fun W (k : Ext w1 W) => h1.ext k)
  go_wp2_with fail
  refine (HT.out _ _ _ (H1.out _ ((by repeat (first | assumption | exact Ext.refl _ | refine Ext.alloc ?_ _ | refine Ext.drew ?_ | refine Ext.drewN ?_ _ | refine Ext.setCell ?_ (by first | (simp; done) | omega | (simp; omega)) _ | refine Ext.trans (by assumption) ?_))))).mono ?_
  rintro e w2 ⟨⟨B, m, d, rfl, hm, hT⟩, hx2⟩
  obtain rfl : m = 3 := hm
  have k2 : Ext w1 w2 := Ext.trans ((by repeat (first | assumption | exact Ext.refl _ | refine Ext.alloc ?_ _ | refine Ext.drew ?_ | refine Ext.drewN ?_ _ | refine Ext.setCell ?_ (by first | (simp; done) | omega | (simp; omega)) _ | refine Ext.trans (by assumption) ?_))) hx2
  have t0 := hx2.cell (p := ⟨w1.heap.size, 0, none⟩) (v := .slice A 3 c) (by first | (simp; done) | (simp (maxDischargeDepth := 7) [go_sem]; done))
  obtain ⟨tb, to, rfl, hr⟩ := hT.at' (i := 2) (by omega)
  rw [hrow] at hr
  go_wp2_with fail
  refine (HU.out _ _ _ (H1.out _ k2)).mono ?_
  rintro e w3 ⟨rfl, hx3⟩
  have k3 := k2.trans hx3
  replace t0 := hx3.cell t0
  go_wp2_with fail
  refine (HD.out _ _ _ (H1.out _ k3)).mono ?_
  rintro e w4 ⟨rfl, hx4⟩
  have k4 := k3.trans hx4
  replace t0 := hx4.cell t0
  go_wp2_with fail
  refine (HA.out _ _ _ (H1.out _ k4)).mono ?_
  rintro e w5 ⟨rfl, hx5⟩
  have k5 := k4.trans hx5
  replace t0 := hx5.cell t0
  go_wp2_with fail
  refine (HM.out _ _ _ (H1.out _ k5)).mono ?_
  rintro e w6 ⟨rfl, hx6⟩
  have k6 := k5.trans hx6
  replace t0 := hx6.cell t0
  have rL := rangeAt_ext hr (hx3.trans (hx4.trans (hx5.trans hx6)))
  have d0 := rangeAt_head rL (j := 0) (v := .int .i64 1) rfl
  have d1 := rangeAt_head rL (j := 1) (v := .int .i64 0) rfl
  have d2 := rangeAt_head rL (j := 2) (v := .int .i64 (-1)) rfl
  have d3 := rangeAt_head rL (j := 3) (v := .int .i64 (-1)) rfl
  simp only [Nat.add_zero, Nat.reduceMul] at d0 d1 d2 d3
  go_wp2
  go_ret
  exact ⟨rfl, k1.trans k6⟩
end Go.Proofs.Ytomobdlbopbpeaa
