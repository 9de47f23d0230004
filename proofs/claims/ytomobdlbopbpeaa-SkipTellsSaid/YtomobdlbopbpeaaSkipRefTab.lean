/- The document's answer for layer 7: Table. -/
import Derived.Test.YtomobdlbopbpeaaSkipRef
import Derived.Deep.DeepCutAuto
import Derived.Deep.RegionHeld3
namespace Go.Proofs.Ytomobdlbopbpeaa
open Go.RowKit Go.WideShapes Go.ChangeShapes
set_option linter.unusedVariables false
set_option linter.unusedSimpArgs false





theorem four_one (a b c d : Int) : ∀ u ∈ [Value.int .i64 a, Value.int .i64 b, Value.int .i64 c, Value.int .i64 d], u.oneCell' = true := by
  intro u hu
  simp at hu
  rcases hu with rfl | rfl | rfl | rfl <;> rfl
set_option maxHeartbeats 2000000 in
theorem r7table_any (A : Option Addr) (n c : Nat) (NS : List Node) (b : Bool) (hm : Tree.mayV NS = b) (w : World) (h : NL w A n c NS) :
    Calls Try.prog 12 #[.agg #[.slice A n c]] w fun e w' => (∃ B m d, e = .returned (.slice B m d) ∧ m = (if b = true then n else 0) ∧ Tab w' B m d NS) ∧ Ext w w' := by
  have hlen := h.len
  have hroom := h.row.room
  have HM := Lib.hid (fun W (k : Ext w W) => (by subst hm; exact rmay_any A n c NS W (h.ext k) : Calls Try.prog 26 #[.agg #[.slice A n c]] W fun e w' => e = .returned (.bool b) ∧ Ext W w'))
  cases b with
  | false =>
    go_enter Try.func12, Try.ntmps12
    go_wp2_with fail
    refine (HM.out _ ((by repeat (first | assumption | exact Ext.refl _ | refine Ext.alloc ?_ _ | refine Ext.drew ?_ | refine Ext.drewN ?_ _ | refine Ext.setCell ?_ (by first | (simp; done) | omega | (simp; omega)) _ | refine Ext.trans (by assumption) ?_)))).mono ?_
    rintro e w1 ⟨rfl, hx1⟩
    have k1 : Ext w w1 := Ext.trans ((by repeat (first | assumption | exact Ext.refl _ | refine Ext.alloc ?_ _ | refine Ext.drew ?_ | refine Ext.drewN ?_ _ | refine Ext.setCell ?_ (by first | (simp; done) | omega | (simp; omega)) _ | refine Ext.trans (by assumption) ?_))) hx1
    have t0 := hx1.cell (p := ⟨w.heap.size, 0, none⟩) (v := .slice A n c) (by first | (simp; done) | (simp (maxDischargeDepth := 7) [go_sem]; done))
    go_wp2
    go_loopw [3, 5] (fun v i' wr => v = .slice none 0 0 ∧ i' = .int .i64 0 ∧ wr = w1) (fun _ _ _ => 0)
    case atStart => exact ⟨rfl, rfl, rfl⟩
    case round =>
      obtain ⟨rfl, rfl, rfl⟩ := hrel
      go_wp2
      all_goals (go_ret; exact ⟨⟨_, _, _, rfl, rfl, ⟨WRow.nil_mk _ 4⟩⟩, k1⟩)
  | true =>
    have h12 := Tree.len_le hm
    rw [hlen] at h12
    have HUX := Lib.hid (fun (i k : Nat) (hk : ((2 ^ k : Nat) : Int) ≤ 9223372036854775807) (hi : i < n) W (kx : Ext w W) => (by have hu := Skip.upV_in hm (a := i) (n := 2 ^ k) (by omega); have := r7up_any A n c NS (i : Int) ((2 ^ k : Nat) : Int) hk W (h.ext kx); rw [hu] at this; exact this : Calls Try.prog 14 #[.agg #[.slice A n c], .int .i64 (i : Int), .int .i64 ((2 ^ k : Nat) : Int)] W fun e w' => e = .returned (.int .i64 (Skip.leap NS i k)) ∧ Ext W w'))
    clear hm h
    go_enter Try.func12, Try.ntmps12
    go_wp2_with fail
    refine (HM.out _ ((by repeat (first | assumption | exact Ext.refl _ | refine Ext.alloc ?_ _ | refine Ext.drew ?_ | refine Ext.drewN ?_ _ | refine Ext.setCell ?_ (by first | (simp; done) | omega | (simp; omega)) _ | refine Ext.trans (by assumption) ?_)))).mono ?_
    rintro e w1 ⟨rfl, hx1⟩
    have k1 : Ext w w1 := Ext.trans ((by repeat (first | assumption | exact Ext.refl _ | refine Ext.alloc ?_ _ | refine Ext.drew ?_ | refine Ext.drewN ?_ _ | refine Ext.setCell ?_ (by first | (simp; done) | omega | (simp; omega)) _ | refine Ext.trans (by assumption) ?_))) hx1
    have t0 := hx1.cell (p := ⟨w.heap.size, 0, none⟩) (v := .slice A n c) (by first | (simp; done) | (simp (maxDischargeDepth := 7) [go_sem]; done))
    have T0 := Lib.hid t0
    clear t0 HM
    go_wp2
    go_loopw [3, 5] (fun v i' wr => ∃ i : Nat, i ≤ n ∧ i' = .int .i64 i ∧ wr.ownsRow w1.heap.size 41 4 v i (Skip.tabL NS i).flatten ∧ Ext w1 wr) (fun _ i' _ => n - (intOf i').toNat)
    case atStart => exact ⟨0, Nat.zero_le _, rfl, own_new _ _ _ _, Ext.refl _⟩
    case round =>
      obtain ⟨i, hi, rfl, hown, hx⟩ := hrel
      have kr := k1.trans hx
      have tt := hx.cell T0.out
      have TT := Lib.hid tt
      by_cases hlt : i < n
      · have gi : (i : Int) < n := by omega
        have HOW := Lib.hid hown
        have hsz := hx.size
        have U0 : Hid (∀ W, Ext w W → Calls Try.prog 14 #[.agg #[.slice A n c], .int .i64 (i : Int), .int .i64 1] W fun e w' => e = .returned (.int .i64 (Skip.leap NS i 0)) ∧ Ext W w') := fun W kx => HUX.out i 0 (by decide) hlt W kx
        have U1 : Hid (∀ W, Ext w W → Calls Try.prog 14 #[.agg #[.slice A n c], .int .i64 (i : Int), .int .i64 2] W fun e w' => e = .returned (.int .i64 (Skip.leap NS i 1)) ∧ Ext W w') := fun W kx => HUX.out i 1 (by decide) hlt W kx
        have U2 : Hid (∀ W, Ext w W → Calls Try.prog 14 #[.agg #[.slice A n c], .int .i64 (i : Int), .int .i64 4] W fun e w' => e = .returned (.int .i64 (Skip.leap NS i 2)) ∧ Ext W w') := fun W kx => HUX.out i 2 (by decide) hlt W kx
        have U3 : Hid (∀ W, Ext w W → Calls Try.prog 14 #[.agg #[.slice A n c], .int .i64 (i : Int), .int .i64 8] W fun e w' => e = .returned (.int .i64 (Skip.leap NS i 3)) ∧ Ext W w') := fun W kx => HUX.out i 3 (by decide) hlt W kx
        have hrow : Skip.rowC NS i = [.int .i64 (Skip.leap NS i 0), .int .i64 (Skip.leap NS i 1), .int .i64 (Skip.leap NS i 2), .int .i64 (Skip.leap NS i 3)] := rfl
        have HTF := Lib.hid (Skip.tab_flat NS i)
        rw [hrow] at HTF
        generalize Skip.leap NS i 0 = x0 at *
        generalize Skip.leap NS i 1 = x1 at *
        generalize Skip.leap NS i 2 = x2 at *
        generalize Skip.leap NS i 3 = x3 at *
        clear hown hrow
        go_upto_region 6 with fail
        go_region_held3 (fun w' => w'.cell? ⟨w.heap.size, 0, none⟩ = some (.slice A n c)) (first | go_keep | exact hx5.cell T0.out | exact Ext.cell ((by repeat (first | assumption | exact Ext.refl _ | refine Ext.alloc ?_ _ | refine Ext.drew ?_ | refine Ext.drewN ?_ _ | refine Ext.setCell ?_ (by first | (simp; done) | omega | (simp; omega)) _ | refine Ext.trans (by assumption) ?_))) TT.out) (first | (go_at_call 14; (with_reducible refine (U0.out _ (Ext.trans kr ((by repeat (first | assumption | exact Ext.refl _ | refine Ext.alloc ?_ _ | refine Ext.drew ?_ | refine Ext.drewN ?_ _ | refine Ext.setCell ?_ (by first | (simp; done) | omega | (simp; omega)) _ | refine Ext.trans (by assumption) ?_))))).mono ?_); rintro e wa ⟨rfl, hxa⟩; have ka : Ext wr wa := Ext.trans ((by repeat (first | assumption | exact Ext.refl _ | refine Ext.alloc ?_ _ | refine Ext.drew ?_ | refine Ext.drewN ?_ _ | refine Ext.setCell ?_ (by first | (simp; done) | omega | (simp; omega)) _ | refine Ext.trans (by assumption) ?_))) hxa) | (go_at_call 14; (with_reducible refine (U1.out _ (Ext.trans kr ((by repeat (first | assumption | exact Ext.refl _ | refine Ext.alloc ?_ _ | refine Ext.drew ?_ | refine Ext.drewN ?_ _ | refine Ext.setCell ?_ (by first | (simp; done) | omega | (simp; omega)) _ | refine Ext.trans (by assumption) ?_))))).mono ?_); rintro e wb ⟨rfl, hxb⟩; have kb : Ext wr wb := Ext.trans ((by repeat (first | assumption | exact Ext.refl _ | refine Ext.alloc ?_ _ | refine Ext.drew ?_ | refine Ext.drewN ?_ _ | refine Ext.setCell ?_ (by first | (simp; done) | omega | (simp; omega)) _ | refine Ext.trans (by assumption) ?_))) hxb) | (go_at_call 14; (with_reducible refine (U2.out _ (Ext.trans kr ((by repeat (first | assumption | exact Ext.refl _ | refine Ext.alloc ?_ _ | refine Ext.drew ?_ | refine Ext.drewN ?_ _ | refine Ext.setCell ?_ (by first | (simp; done) | omega | (simp; omega)) _ | refine Ext.trans (by assumption) ?_))))).mono ?_); rintro e wc ⟨rfl, hxc⟩; have kc : Ext wr wc := Ext.trans ((by repeat (first | assumption | exact Ext.refl _ | refine Ext.alloc ?_ _ | refine Ext.drew ?_ | refine Ext.drewN ?_ _ | refine Ext.setCell ?_ (by first | (simp; done) | omega | (simp; omega)) _ | refine Ext.trans (by assumption) ?_))) hxc) | (go_at_call 14; (with_reducible refine (U3.out _ (Ext.trans kr ((by repeat (first | assumption | exact Ext.refl _ | refine Ext.alloc ?_ _ | refine Ext.drew ?_ | refine Ext.drewN ?_ _ | refine Ext.setCell ?_ (by first | (simp; done) | omega | (simp; omega)) _ | refine Ext.trans (by assumption) ?_))))).mono ?_); rintro e wd ⟨rfl, hxd⟩; have kd : Ext wr wd := Ext.trans ((by repeat (first | assumption | exact Ext.refl _ | refine Ext.alloc ?_ _ | refine Ext.drew ?_ | refine Ext.drewN ?_ _ | refine Ext.setCell ?_ (by first | (simp; done) | omega | (simp; omega)) _ | refine Ext.trans (by assumption) ?_))) hxd) | (refine step_app rowTab (by rfl) _ _ (by rfl) w1.heap.size _ i (Skip.tabL NS i).flatten (by rfl) ((own_ext HOW.out kd).alloc _) (some ⟨_, 0, none⟩) 1 1 [.int .i64 x0, .int .i64 x1, .int .i64 x2, .int .i64 x3] (by rfl) (src_at4 (by rfl) (four_one x0 x1 x2 x3) (by rfl)) (by omega) (by have := kd.size; simp; omega) ?_; intro v2 wz hown2 hgrow hat; have hx5 : Ext w1 wz := ((hx.trans kd).alloc _).grown hgrow (fun j e => own_from HOW.out j e)))
        go_wp2
        go_roundw
        case rel =>
          have ho : wz.ownsRow w1.heap.size 41 4 v2 (i + 1) (Skip.tabL NS (i + 1)).flatten := by
            rw [HTF.out]; exact hown2
          first | exact ⟨i + 1, by omega, by go_num, ho, hx5⟩ | (refine ⟨_, ⟨i + 1, by omega, ?_, ho, hx5⟩, rfl⟩; go_num)
        case measure => first | (simp [intOf]; done) | (simp [intOf]; omega)
      · obtain rfl : n = i := by omega
        obtain ⟨TA, tc, rfl, hrow, hbl⟩ := wide_own (by omega) hown (by omega) (Skip.tab_len NS n) (Skip.tab_wide NS n)
        have HTA : Hid (Tab wr TA n tc NS) := ⟨hrow⟩
        clear hown hrow
        go_wp2
        go_ret
        exact ⟨⟨_, _, _, rfl, rfl, HTA.out⟩, kr⟩
end Go.Proofs.Ytomobdlbopbpeaa
