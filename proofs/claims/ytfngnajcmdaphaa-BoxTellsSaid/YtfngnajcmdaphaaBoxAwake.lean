/- The chapter's example of layer 5. -/
import Derived.Test.YtfngnajcmdaphaaBoxPost
namespace Go.Proofs.Ytfngnajcmdaphaa
open Go.RowKit Go.WideShapes Go.ChangeShapes
set_option linter.unusedVariables false
set_option linter.unusedSimpArgs false






def noteV (v : Int) : Note := ⟨v, zeroR, 0, zeroR⟩
theorem noteV_ok {v : Int} (h : (Lit.int .i64 v).wf = true) : (noteV v).Ok := ⟨h, zeroR_ok, (by decide : (0 : Nat) < 18446744073709551616), zeroR_ok⟩
theorem zNote_set (v : Int) : zNote.setIfInBounds 0 (.int .i64 v) = (noteV v).cells.toArray := by
  apply Array.toList_inj.1
  rw [Array.toList_setIfInBounds]
  rfl
theorem aw_new (W : World) : Calls Try.prog 20 #[.int .i64 1] W fun e w' => e = .returned (.tuple #[.agg #[.int .i64 1, .slice none 0 0, .bool false, .bool false], .bool true]) ∧ Ext W w' := by
  have k := new_any 1 W
  rw [show newQ 1 = true from by decide, show newC 1 = 1 from by decide] at k
  exact k
theorem aw_post1 (W : World) : Calls Try.prog 11 #[.agg #[.int .i64 1, .slice none 0 0, .bool false, .bool false], .agg (zNote.setIfInBounds 0 (.int .i64 1))] W fun e w' => (∃ A c, e = .returned (.agg #[.int .i64 1, .slice A 1 c, .bool false, .bool false]) ∧ TL w' A 1 c [noteV 1]) ∧ Ext W w' := by
  rw [zNote_set]
  exact bpost_any none 0 0 [] 1 false false (noteV 1) W (TL.nil_mk W) (noteV_ok (by decide)) true [noteV 1] false (by decide)
theorem aw_post2 (A : Option Addr) (c : Nat) (W : World) (h : TL W A 1 c [noteV 1]) : Calls Try.prog 11 #[.agg #[.int .i64 1, .slice A 1 c, .bool false, .bool false], .agg (zNote.setIfInBounds 0 (.int .i64 2))] W fun e w' => (∃ A c, e = .returned (.agg #[.int .i64 1, .slice A 1 c, .bool true, .bool false]) ∧ TL w' A 1 c [noteV 1]) ∧ Ext W w' := by
  rw [zNote_set]
  exact bpost_any A 1 c [noteV 1] 1 false false (noteV 2) W h (noteV_ok (by decide)) false [noteV 1] true (by decide)
theorem aw_take (A : Option Addr) (c : Nat) (W : World) (h : TL W A 1 c [noteV 1]) : Calls Try.prog 12 #[.agg #[.int .i64 1, .slice A 1 c, .bool true, .bool false]] W fun e w' => (∃ A' c', e = .returned (.tuple #[.agg #[.int .i64 1, .slice A' 0 c', .bool true, .bool false], .agg (noteV 1).cells.toArray, .bool true]) ∧ TL w' A' 0 c' []) ∧ Ext W w' :=
  btake_any A 1 c [noteV 1] 1 true false W h true [] (noteV 1) (noteV_ok (by decide)) (by decide)
theorem aw_may (A : Option Addr) (c : Nat) (W : World) (h : TL W A 1 c [noteV 1]) : Calls Try.prog 10 #[.agg #[.int .i64 1, .slice A 1 c, .bool true, .bool false]] W fun e w' => e = .returned (.bool true) ∧ Ext W w' := by
  have k := bmay_any A 1 c [noteV 1] 1 true false W h
  rw [show Box.mayV 1 [noteV 1] = true from by decide] at k
  exact k
theorem same_self (A : Option Addr) (n c : Nat) (cap : Int) (l : List Note) (lag cl : Bool) (B : Option Addr) (m d : Nat) (W : World) (h : TL W A n c l) (g : TL W B m d l) : Calls Try.prog 13 #[.agg #[.int .i64 cap, .slice A n c, .bool lag, .bool cl], .agg #[.int .i64 cap, .slice B m d, .bool lag, .bool cl]] W fun e w' => e = .returned (.bool true) ∧ Ext W w' := by
  have k := bsame_any A n c l cap lag cl B m d l cap lag cl W h g
  rw [show sameV cap cap lag lag cl cl l l = true from by unfold sameV; simp [eqT]] at k
  exact k
set_option maxHeartbeats 2000000 in
theorem awake_any (w : World) : Calls Try.prog 9 #[] w fun e w' => e = .returned (.bool true) ∧ Ext w w' := by
  have HN := Lib.hid (fun W => aw_new W)
  have HP1 := Lib.hid (fun W => aw_post1 W)
  have HP2 := Lib.hid (fun W A c (h : TL W A 1 c [noteV 1]) => aw_post2 A c W h)
  have HT := Lib.hid (fun W A c (h : TL W A 1 c [noteV 1]) => aw_take A c W h)
  have HM := Lib.hid (fun W A c (h : TL W A 1 c [noteV 1]) => aw_may A c W h)
  have HS := Lib.hid (fun W A c (h : TL W A 1 c [noteV 1]) => same_self A 1 c 1 [noteV 1] true false A 1 c W h h)
  have hzn := zeroNote
  have hzs := zNote_size
  have hze := zNote_ne
  have hx66 : (noteV 1).cells.length = 66 := Note.len (noteV_ok (by decide))
  have hd0 : (noteV 1).cells[0]? = some (.int .i64 1) := rfl
  have hone := Note.one (noteV 1)
  generalize (noteV 1).cells = xc at *
  have hi66 : (Try.prog.info? 33).map (·.size) = some xc.length := by rw [hx66]; kernel_rfl
  go_enter Try.func9, Try.ntmps9
  go_wp2_with fail
  refine (HN.out _).mono ?_
  rintro e w1 ⟨rfl, hx1⟩
  have k1 : Ext w w1 := hx1
  go_wp2_with fail
  refine (HP1.out _).mono ?_
  rintro e w2 ⟨⟨A2, c2, rfl, h2⟩, hx2⟩
  have k2 : Ext w1 w2 := Ext.trans ((by repeat (first | assumption | exact Ext.refl _ | refine Ext.alloc ?_ _ | refine Ext.drew ?_ | refine Ext.drewN ?_ _ | refine Ext.setCell ?_ (by first | (simp; done) | omega | (simp; omega)) _ | refine Ext.trans (by assumption) ?_))) hx2
  go_wp2_with fail
  refine (HP2.out _ _ _ (h2.ext ((by repeat (first | assumption | exact Ext.refl _ | refine Ext.alloc ?_ _ | refine Ext.drew ?_ | refine Ext.drewN ?_ _ | refine Ext.setCell ?_ (by first | (simp; done) | omega | (simp; omega)) _ | refine Ext.trans (by assumption) ?_))))).mono ?_
  rintro e w3 ⟨⟨A3, c3, rfl, h3⟩, hx3⟩
  have k3 : Ext w2 w3 := Ext.trans ((by repeat (first | assumption | exact Ext.refl _ | refine Ext.alloc ?_ _ | refine Ext.drew ?_ | refine Ext.drewN ?_ _ | refine Ext.setCell ?_ (by first | (simp; done) | omega | (simp; omega)) _ | refine Ext.trans (by assumption) ?_))) hx3
  go_wp2_with fail
  refine (HT.out _ _ _ (h3.ext ((by repeat (first | assumption | exact Ext.refl _ | refine Ext.alloc ?_ _ | refine Ext.drew ?_ | refine Ext.drewN ?_ _ | refine Ext.setCell ?_ (by first | (simp; done) | omega | (simp; omega)) _ | refine Ext.trans (by assumption) ?_))))).mono ?_
  rintro e w4 ⟨⟨A4, c4, rfl, h4⟩, hx4⟩
  have k4 : Ext w3 w4 := Ext.trans ((by repeat (first | assumption | exact Ext.refl _ | refine Ext.alloc ?_ _ | refine Ext.drew ?_ | refine Ext.drewN ?_ _ | refine Ext.setCell ?_ (by first | (simp; done) | omega | (simp; omega)) _ | refine Ext.trans (by assumption) ?_))) hx4
  obtain ⟨u0, u1, u2, u3, uf⟩ := (hx4).box4 (B := w3.heap.size) (a := .int .i64 1) (b := .slice A3 1 c3) (c := .bool true) (d := .bool false) (by simp (maxDischargeDepth := 7) [go_sem]) (by simp (maxDischargeDepth := 7) [go_sem]) (by simp (maxDischargeDepth := 7) [go_sem]) (by simp (maxDischargeDepth := 7) [go_sem]) (fun o => by simp (maxDischargeDepth := 7) [go_sem])
  have hl3 := lt_of_cell u0
  have rN := range_at (w := w4.alloc (.cells #[.int .i64 1, .slice A4 0 c4, .bool true, .bool false] 24)) (B := w4.heap.size + 1) xc 33 (by simp)
  have d0 := rN 0 _ hd0
  clear rN
  go_wp2_with (refine wpList_store_mid rfl 33 _ _ rfl _ 0 xc.toArray rfl rfl (there_at (by simp) _ (by rw [List.size_toArray, hx66]; decide)) (by rw [List.size_toArray]; exact hi66) (all_oneCell_toArray hone) ?_; rw [List.toList_toArray, setCells_at (by simp) (by rw [hx66]; rfl)])
  refine (HM.out _ _ _ (h3.ext (k4.trans (((Ext.refl _).alloc _).alloc _)))).mono ?_
  rintro e w5 ⟨rfl, hx5⟩
  have k5 : Ext w4 w5 := (((Ext.refl w4).alloc _).alloc _).trans hx5
  have u0' := k5.cell u0
  have u1' := k5.cell u1
  have u2' := k5.cell u2
  have u3' := k5.cell u3
  clear d0 u0 u1 u2 u3
  go_wp2_with fail
  refine (HS.out _ _ _ (h3.ext (k4.trans k5))).mono ?_
  rintro e w6 ⟨rfl, hx6⟩
  go_wp2
  go_ret
  exact ⟨rfl, k1.trans (k2.trans (k3.trans (k4.trans (k5.trans hx6))))⟩
end Go.Proofs.Ytfngnajcmdaphaa
