/- The contracts of layer 5 (box): Post, Take, Close. -/
import Derived.Test.YtfngnajcmdaphaaBoxDo
namespace Go.Proofs.Ytfngnajcmdaphaa
open Go.RowKit Go.WideShapes Go.ChangeShapes
set_option linter.unusedVariables false
set_option linter.unusedSimpArgs false






theorem set4_range {w : World} {X : Nat} {a b c d x0 x1 x2 x3 : Value} (h0 : w.cell? ⟨X, 0, none⟩ = some x0) (h1 : w.cell? ⟨X, 1, none⟩ = some x1) (h2 : w.cell? ⟨X, 2, none⟩ = some x2) (h3 : w.cell? ⟨X, 3, none⟩ = some x3) :
    ((((w.setCell ⟨X, 0, none⟩ a).setCell ⟨X, 1, none⟩ b).setCell ⟨X, 2, none⟩ c).setCell ⟨X, 3, none⟩ d).rangeAt X 0 [a, b, c, d] := by
  intro j v hv
  match j, hv with
  | 0, hv => cases hv; simp [go_sem, h0, h1, h2, h3]
  | 1, hv => cases hv; simp [go_sem, h0, h1, h2, h3]
  | 2, hv => cases hv; simp [go_sem, h0, h1, h2, h3]
  | 3, hv => cases hv; simp [go_sem, h0, h1, h2, h3]
theorem there_set4 {w : World} {B : Nat} {k : Nat} (h : w.there B 0 k) (Y : Nat) (a b c d : Value) : ((((w.setCell ⟨Y, 0, none⟩ a).setCell ⟨Y, 1, none⟩ b).setCell ⟨Y, 2, none⟩ c).setCell ⟨Y, 3, none⟩ d).there B 0 k :=
  World.there_setCells h Y 0 [a, b, c, d]
theorem zNote_def : zNote = Note.zero.cells.toArray := rfl




set_option maxHeartbeats 1000000 in
theorem bpost_fresh (A : Option Addr) (n c : Nat) (NS : List Note) (cap : Int) (lag cl : Bool) (x : Note) (w : World) (h : TL w A n c NS) (hxo : x.Ok) (b : Bool) (L : List Note) (lag' : Bool) (hp : Box.postD cap NS lag cl x = (b, L, lag')) :
    Calls Try.prog 11 #[.agg #[.int .i64 cap, .slice A n c, .bool lag, .bool cl], .agg x.cells.toArray] w fun e w' => (∃ A' c', e = .returned (.agg #[.int .i64 cap, .slice A' L.length c', .bool lag', .bool cl]) ∧ TL w' A' L.length c' L ∧ ∀ ad, A' = some ad → w.heap.size ≤ ad.block) ∧ Ext w w' := by
  have hx66 : x.cells.length = 66 := Note.len hxo
  have hi66 : (Try.prog.info? 33).map (·.size) = some x.cells.length := by rw [hx66]; kernel_rfl
  have hzn := zeroNote
  have hzs := zNote_size
  have hze := zNote_ne
  have HD := Lib.hid (fun W (k : Ext w W) => do_post A n c NS cap lag cl x W (h.ext k) hxo b L lag' hp)
  clear h hp
  have rX : World.rangeAt (((w.alloc (.cells #[Value.int .i64 cap, Value.slice A n c, Value.bool lag, Value.bool cl] 24)).alloc (.cells x.cells.toArray 33)).alloc (.cells #[Value.int .i64 0, Value.slice none 0 0, Value.bool false, Value.bool false] 24)) (w.heap.size + 1) 0 x.cells := rangeAt_ext (range_at (w := w.alloc _) (B := w.heap.size + 1) x.cells 33 (by simp)) ((by repeat (first | assumption | exact Ext.refl _ | refine Ext.alloc ?_ _ | refine Ext.drew ?_ | refine Ext.drewN ?_ _ | refine Ext.setCell ?_ (by first | (simp; done) | omega | (simp; omega)) _ | refine Ext.trans (by assumption) ?_)))
  go_enter Try.func11, Try.ntmps11
  go_wp2_with (refine wpList_load_mid rfl 33 _ rfl _ _ rfl x.cells _ rX Try.underlying33 rfl hi66 ?_)
  refine (HD.out _ ((by repeat (first | assumption | exact Ext.refl _ | refine Ext.alloc ?_ _ | refine Ext.drew ?_ | refine Ext.drewN ?_ _ | refine Ext.setCell ?_ (by first | (simp; done) | omega | (simp; omega)) _ | refine Ext.trans (by assumption) ?_)))).mono ?_
  rintro e w1 ⟨⟨A', c', rfl, hT, hfr⟩, hx1⟩
  have k1 : Ext w w1 := Ext.trans ((by repeat (first | assumption | exact Ext.refl _ | refine Ext.alloc ?_ _ | refine Ext.drew ?_ | refine Ext.drewN ?_ _ | refine Ext.setCell ?_ (by first | (simp; done) | omega | (simp; omega)) _ | refine Ext.trans (by assumption) ?_))) hx1
  obtain ⟨u0, u1, u2, u3, uf⟩ := hx1.box4 (B := w.heap.size + 1 + 1) (a := .int .i64 0) (b := .slice none 0 0) (c := .bool false) (d := .bool false) (by simp (maxDischargeDepth := 7) [go_sem]) (by simp (maxDischargeDepth := 7) [go_sem]) (by simp (maxDischargeDepth := 7) [go_sem]) (by simp (maxDischargeDepth := 7) [go_sem]) (fun o => by simp (maxDischargeDepth := 7) [go_sem])
  have HFR := Lib.hid (fun ad (e : A' = some ad) => (by have := hfr ad e; simp at this; omega : w.heap.size ≤ ad.block))
  have HT := Lib.hid (And.intro hT (fun ad (e : A' = some ad) => (by have := hfr ad e; simp at this; omega : ad.block ≠ w.heap.size + 1 + 1)))
  have hX := lt_of_cell u0
  have HX : Hid (w.heap.size ≤ w.heap.size + 1 + 1) := by show _ ≤ _; omega
  clear hT hfr HD rX
  generalize w.heap.size + 1 + 1 = X at *
  go_wp2_with (refine wpList_store_mid rfl 33 _ _ rfl _ 0 x.cells.toArray rfl rfl (there_at (by simp) _ (by rw [List.size_toArray, hx66]; decide)) (by rw [List.size_toArray]; exact hi66) (all_oneCell_toArray (Note.one x)) ?_; rw [List.toList_toArray, setCells_at (by simp) (by rw [hx66]; rfl)])
  refine bodyPost_ret (v := .agg #[.int .i64 cap, .slice A' L.length c', .bool lag', .bool cl]) ?_ rfl ⟨⟨_, _, rfl, ?_, HFR.out⟩, ?_⟩
  · have hl6 := run_loadVar_mid (P := Try.prog) _ X 0 24 _ _ (rangeAt_ext (set4_range (a := .int .i64 cap) (b := .slice A' L.length c') (c := .bool lag') (d := .bool cl) u0 u1 u2 u3) (((Ext.refl _).alloc (Obj.cells #[Value.int IntKind.i64 cap, Value.slice A' L.length c', Value.bool lag', Value.bool cl] 24)).alloc (Obj.cells x.cells.toArray 33))) Try.underlying24 rfl (by kernel_rfl)
    simp only [results, Try.results11]
    simp [Sem.run_bind, Sem.run_pure, hl6, asAddr]
  · exact TL.ext (TL.setCell (TL.setCell (TL.setCell (TL.setCell HT.out.1 (p := ⟨X, 0, none⟩) HT.out.2 _) (p := ⟨X, 1, none⟩) HT.out.2 _) (p := ⟨X, 2, none⟩) HT.out.2 _) (p := ⟨X, 3, none⟩) HT.out.2 _) (((Ext.refl _).alloc _).alloc _)
  · exact (((((k1.setCell (p := ⟨X, 0, none⟩) HX.out _).setCell (p := ⟨X, 1, none⟩) HX.out _).setCell (p := ⟨X, 2, none⟩) HX.out _).setCell (p := ⟨X, 3, none⟩) HX.out _).alloc _).alloc _
theorem bpost_any (A : Option Addr) (n c : Nat) (NS : List Note) (cap : Int) (lag cl : Bool) (x : Note) (w : World) (h : TL w A n c NS) (hxo : x.Ok) (b : Bool) (L : List Note) (lag' : Bool) (hp : Box.postD cap NS lag cl x = (b, L, lag')) :
    Calls Try.prog 11 #[.agg #[.int .i64 cap, .slice A n c, .bool lag, .bool cl], .agg x.cells.toArray] w fun e w' => (∃ A' c', e = .returned (.agg #[.int .i64 cap, .slice A' L.length c', .bool lag', .bool cl]) ∧ TL w' A' L.length c' L) ∧ Ext w w' :=
  (bpost_fresh A n c NS cap lag cl x w h hxo b L lag' hp).mono (fun e w1 ⟨⟨A', c', e1, h1, _⟩, hx⟩ => ⟨⟨A', c', e1, h1⟩, hx⟩)
set_option maxHeartbeats 1000000 in
theorem btake_fresh (A : Option Addr) (n c : Nat) (NS : List Note) (cap : Int) (lag cl : Bool) (w : World) (h : TL w A n c NS) (b : Bool) (L : List Note) (x : Note) (hxo : x.Ok) (hp : Box.takeD cap NS = (b, L, x)) :
    Calls Try.prog 12 #[.agg #[.int .i64 cap, .slice A n c, .bool lag, .bool cl]] w fun e w' => (∃ A' c', e = .returned (.tuple #[.agg #[.int .i64 cap, .slice A' L.length c', .bool lag, .bool cl], .agg x.cells.toArray, .bool b]) ∧ TL w' A' L.length c' L ∧ ∀ ad, A' = some ad → w.heap.size ≤ ad.block) ∧ Ext w w' := by
  have hx66 : x.cells.length = 66 := Note.len hxo
  have hi66 : (Try.prog.info? 33).map (·.size) = some x.cells.length := by rw [hx66]; kernel_rfl
  have hu33 := Try.underlying33
  have hzn := zeroNote
  have hzs := zNote_size
  have hze := zNote_ne
  have HD := Lib.hid (fun W (k : Ext w W) => do_take A n c NS cap lag cl W (h.ext k) b L x hp)
  clear h hp
  generalize L.length = m at *
  go_enter Try.func12, Try.ntmps12
  go_wp2_with fail
  refine (HD.out _ ((by repeat (first | assumption | exact Ext.refl _ | refine Ext.alloc ?_ _ | refine Ext.drew ?_ | refine Ext.drewN ?_ _ | refine Ext.setCell ?_ (by first | (simp; done) | omega | (simp; omega)) _ | refine Ext.trans (by assumption) ?_)))).mono ?_
  rintro e w1 ⟨⟨A', c', rfl, hT, hfr⟩, hx1⟩
  have k1 : Ext w w1 := Ext.trans ((by repeat (first | assumption | exact Ext.refl _ | refine Ext.alloc ?_ _ | refine Ext.drew ?_ | refine Ext.drewN ?_ _ | refine Ext.setCell ?_ (by first | (simp; done) | omega | (simp; omega)) _ | refine Ext.trans (by assumption) ?_))) hx1
  obtain ⟨u0, u1, u2, u3, uf⟩ := hx1.box4 (B := w.heap.size + 1) (a := .int .i64 0) (b := .slice none 0 0) (c := .bool false) (d := .bool false) (by simp (maxDischargeDepth := 7) [go_sem]) (by simp (maxDischargeDepth := 7) [go_sem]) (by simp (maxDischargeDepth := 7) [go_sem]) (by simp (maxDischargeDepth := 7) [go_sem]) (fun o => by simp (maxDischargeDepth := 7) [go_sem])
  have rZ := rangeAt_ext (range_at (w := (w.alloc (.cells #[Value.int .i64 cap, Value.slice A n c, Value.bool lag, Value.bool cl] 24)).alloc (.cells #[Value.int .i64 0, Value.slice none 0 0, Value.bool false, Value.bool false] 24)) (B := w.heap.size + 1 + 1) Note.zero.cells 33 (by simp)) hx1
  have hth : w1.there (w.heap.size + 1 + 1) 0 66 := there_of rZ (Note.len Note.zero_ok) (hx1.free (range_at (w := (w.alloc (.cells #[Value.int .i64 cap, Value.slice A n c, Value.bool lag, Value.bool cl] 24)).alloc (.cells #[Value.int .i64 0, Value.slice none 0 0, Value.bool false, Value.bool false] 24)) (B := w.heap.size + 1 + 1) Note.zero.cells 33 (by simp) 0 _ rfl) (fun o => by simp (maxDischargeDepth := 7) [go_sem]))
  have HFR := Lib.hid (fun ad (e : A' = some ad) => (by have := hfr ad e; simp at this; omega : w.heap.size ≤ ad.block))
  have HT := Lib.hid (And.intro hT (fun ad (e : A' = some ad) => (by have := hfr ad e; simp at this; omega : ad.block ≠ w.heap.size + 1 ∧ ad.block ≠ w.heap.size + 1 + 1)))
  have hX := lt_of_cell u0
  obtain ⟨X2, hX2⟩ : ∃ X2, X2 = w.heap.size + 1 + 1 := ⟨_, rfl⟩
  obtain ⟨X, hX'⟩ : ∃ X, X = w.heap.size + 1 := ⟨_, rfl⟩
  have HX : Hid (w.heap.size ≤ X ∧ w.heap.size ≤ X2 ∧ X ≠ X2) := by show _ ∧ _; omega
  rw [← hX2] at hth HT ⊢
  rw [← hX'] at u0 u1 u2 u3 uf HT hX ⊢
  clear hT hfr HD rZ hX2 hX'
  have hth4 := there_set4 hth X (.int .i64 cap) (.slice A' m c') (.bool lag) (.bool cl)
  clear hth
  have Z1 := set4_range (a := .int .i64 cap) (b := .slice A' m c') (c := .bool lag) (d := .bool cl) u0 u1 u2 u3
  have Z2 := World.rangeAt_setCells_apart Z1 X2 0 x.cells (.inl HX.out.2.2)
  have Y2 := World.rangeAt_setCells_same _ X2 0 x.cells (by rw [hx66]; exact hth4)
  have T2 := TL.setCells (fun ad e => (HT.out.2 ad e).2) x.cells 0 (TL.setCell (TL.setCell (TL.setCell (TL.setCell HT.out.1 (p := ⟨X, 0, none⟩) (fun ad e => (HT.out.2 ad e).1) (.int .i64 cap)) (p := ⟨X, 1, none⟩) (fun ad e => (HT.out.2 ad e).1) (.slice A' m c')) (p := ⟨X, 2, none⟩) (fun ad e => (HT.out.2 ad e).1) (.bool lag)) (p := ⟨X, 3, none⟩) (fun ad e => (HT.out.2 ad e).1) (.bool cl))
  have K2 := Ext.setCells HX.out.2.1 x.cells 0 ((((k1.setCell (p := ⟨X, 0, none⟩) HX.out.1 (.int .i64 cap)).setCell (p := ⟨X, 1, none⟩) HX.out.1 (.slice A' m c')).setCell (p := ⟨X, 2, none⟩) HX.out.1 (.bool lag)).setCell (p := ⟨X, 3, none⟩) HX.out.1 (.bool cl))
  have HF := Lib.hid (And.intro Z2 (And.intro Y2 (And.intro T2 K2)))
  clear Z1 Z2 Y2 T2 K2
  have hth5 : World.there ((((w1.setCell ⟨X, 0, none⟩ (.int .i64 cap)).setCell ⟨X, 1, none⟩ (.slice A' m c')).setCell ⟨X, 2, none⟩ (.bool lag)).setCell ⟨X, 3, none⟩ (.bool cl)) X2 0 x.cells.toArray.size := by rw [List.size_toArray, hx66]; exact hth4
  go_wp2_with (refine wpList_store_mid rfl 33 _ _ rfl X2 0 x.cells.toArray rfl rfl (by with_reducible exact hth5) (by rw [List.size_toArray]; exact hi66) (all_oneCell_toArray (Note.one x)) ?_; rw [List.toList_toArray]; generalize (((((w1.setCell ⟨X, 0, none⟩ (.int .i64 cap)).setCell ⟨X, 1, none⟩ (.slice A' m c')).setCell ⟨X, 2, none⟩ (.bool lag)).setCell ⟨X, 3, none⟩ (.bool cl)).setCells X2 0 x.cells) = W9 at *)
  obtain ⟨Z2, Y2, T2, K2⟩ := HF.out
  refine bodyPost_ret (v := .tuple #[.agg #[.int .i64 cap, .slice A' m c', .bool lag, .bool cl], .agg x.cells.toArray, .bool b]) ?_ rfl ⟨⟨_, _, rfl, T2, HFR.out⟩, K2⟩
  have hl6 := run_loadVar_mid (P := Try.prog) _ X 0 24 _ _ Z2 Try.underlying24 rfl (by kernel_rfl)
  have hl7 := run_loadVar_mid (P := Try.prog) _ X2 0 33 _ _ Y2 Try.underlying33 rfl hi66
  simp only [results, Try.results12]
  simp [Sem.run_bind, Sem.run_pure, hl6, hl7, asAddr]
theorem btake_any (A : Option Addr) (n c : Nat) (NS : List Note) (cap : Int) (lag cl : Bool) (w : World) (h : TL w A n c NS) (b : Bool) (L : List Note) (x : Note) (hxo : x.Ok) (hp : Box.takeD cap NS = (b, L, x)) :
    Calls Try.prog 12 #[.agg #[.int .i64 cap, .slice A n c, .bool lag, .bool cl]] w fun e w' => (∃ A' c', e = .returned (.tuple #[.agg #[.int .i64 cap, .slice A' L.length c', .bool lag, .bool cl], .agg x.cells.toArray, .bool b]) ∧ TL w' A' L.length c' L) ∧ Ext w w' :=
  (btake_fresh A n c NS cap lag cl w h b L x hxo hp).mono (fun e w1 ⟨⟨A', c', e1, h1, _⟩, hx⟩ => ⟨⟨A', c', e1, h1⟩, hx⟩)
set_option maxHeartbeats 1000000 in
theorem bclose_any (A : Option Addr) (n c : Nat) (NS : List Note) (cap : Int) (lag cl : Bool) (w : World) (h : TL w A n c NS) (b cl' : Bool) (hp : Box.closeD cap NS cl = (b, cl')) :
    Calls Try.prog 18 #[.agg #[.int .i64 cap, .slice A n c, .bool lag, .bool cl]] w fun e w' => (∃ A' c', e = .returned (.tuple #[.agg #[.int .i64 cap, .slice A' NS.length c', .bool lag, .bool cl'], .bool b]) ∧ TL w' A' NS.length c' NS) ∧ Ext w w' := by
  obtain ⟨x, ex⟩ : ∃ x, x = Note.zero := ⟨_, rfl⟩
  have hxo : x.Ok := by rw [ex]; exact Note.zero_ok
  have hx66 : x.cells.length = 66 := Note.len hxo
  have hi66 : (Try.prog.info? 33).map (·.size) = some x.cells.length := by rw [hx66]; kernel_rfl
  have hu33 := Try.underlying33
  have hzn := zeroNote
  have hzs := zNote_size
  have hze := zNote_ne
  have HD := Lib.hid (fun W (k : Ext w W) => do_close A n c NS cap lag cl W (h.ext k) b cl' hp)
  rw [← ex] at HD
  clear h hp ex
  generalize NS.length = m at *
  go_enter Try.func18, Try.ntmps18
  go_wp2_with fail
  refine (HD.out _ ((by repeat (first | assumption | exact Ext.refl _ | refine Ext.alloc ?_ _ | refine Ext.drew ?_ | refine Ext.drewN ?_ _ | refine Ext.setCell ?_ (by first | (simp; done) | omega | (simp; omega)) _ | refine Ext.trans (by assumption) ?_)))).mono ?_
  rintro e w1 ⟨⟨A', c', rfl, hT, hfr⟩, hx1⟩
  have k1 : Ext w w1 := Ext.trans ((by repeat (first | assumption | exact Ext.refl _ | refine Ext.alloc ?_ _ | refine Ext.drew ?_ | refine Ext.drewN ?_ _ | refine Ext.setCell ?_ (by first | (simp; done) | omega | (simp; omega)) _ | refine Ext.trans (by assumption) ?_))) hx1
  obtain ⟨u0, u1, u2, u3, uf⟩ := hx1.box4 (B := w.heap.size + 1) (a := .int .i64 0) (b := .slice none 0 0) (c := .bool false) (d := .bool false) (by simp (maxDischargeDepth := 7) [go_sem]) (by simp (maxDischargeDepth := 7) [go_sem]) (by simp (maxDischargeDepth := 7) [go_sem]) (by simp (maxDischargeDepth := 7) [go_sem]) (fun o => by simp (maxDischargeDepth := 7) [go_sem])
  have HT := Lib.hid (And.intro hT (fun ad (e : A' = some ad) => (by have := hfr ad e; simp at this; omega : ad.block ≠ w.heap.size + 1)))
  have hX := lt_of_cell u0
  have HX : Hid (w.heap.size ≤ w.heap.size + 1) := by show _ ≤ _; omega
  clear hT hfr HD
  generalize w.heap.size + 1 = X at *
  go_wp2_with (refine wpList_store_mid rfl 33 _ _ rfl _ 0 x.cells.toArray rfl rfl (there_at (by simp) _ (by rw [List.size_toArray, hx66]; decide)) (by rw [List.size_toArray]; exact hi66) (all_oneCell_toArray (Note.one x)) ?_; rw [List.toList_toArray, setCells_at (by simp) (by rw [hx66]; rfl)])
  refine bodyPost_ret (v := .tuple #[.agg #[.int .i64 cap, .slice A' m c', .bool lag, .bool cl'], .bool b]) ?_ rfl ⟨⟨_, _, rfl, ?_⟩, ?_⟩
  · have hl6 := run_loadVar_mid (P := Try.prog) _ X 0 24 _ _ (rangeAt_ext (set4_range (a := .int .i64 cap) (b := .slice A' m c') (c := .bool lag) (d := .bool cl') u0 u1 u2 u3) (((Ext.refl _).alloc (Obj.cells #[Value.int IntKind.i64 cap, Value.slice A' m c', Value.bool lag, Value.bool cl'] 24)).alloc (Obj.cells x.cells.toArray 33))) Try.underlying24 rfl (by kernel_rfl)
    simp only [results, Try.results18]
    simp [Sem.run_bind, Sem.run_pure, hl6, asAddr]
  · exact TL.ext (TL.setCell (TL.setCell (TL.setCell (TL.setCell HT.out.1 (p := ⟨X, 0, none⟩) HT.out.2 _) (p := ⟨X, 1, none⟩) HT.out.2 _) (p := ⟨X, 2, none⟩) HT.out.2 _) (p := ⟨X, 3, none⟩) HT.out.2 _) (((Ext.refl _).alloc _).alloc _)
  · exact (((((k1.setCell (p := ⟨X, 0, none⟩) HX.out _).setCell (p := ⟨X, 1, none⟩) HX.out _).setCell (p := ⟨X, 2, none⟩) HX.out _).setCell (p := ⟨X, 3, none⟩) HX.out _).alloc _).alloc _
end Go.Proofs.Ytfngnajcmdaphaa
