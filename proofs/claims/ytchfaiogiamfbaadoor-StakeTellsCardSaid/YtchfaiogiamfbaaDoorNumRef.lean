/- The contracts of layer 1's references, and of the chapter's examples: the same answers as layer 1's. -/
import Derived.Test.YtchfaiogiamfbaaDoorNum
namespace Go.Proofs.YtchfaiogiamfbaaDoor
open Go.RowKit
set_option linter.unusedVariables false
set_option linter.unusedSimpArgs false



































































































































def Num.need (w : Nat) : Nat := 2 * (w / 3) + w % 3
theorem need_any (a : Nat) (ha : a < 18446744073709551616) (w : World) :
    Calls Tryd.prog 35 #[.int .u64 a] w fun e w' => e = .returned (.int .u64 (Num.need a : Nat)) ∧ Ext w w' := by
  have hr : a % 3 = 0 ∨ a % 3 = 1 ∨ a % 3 = 2 := by omega
  rcases hr with h | h | h
  · have H : Hid (2 * ((a : Int) / 3) = (Num.need a : Nat)) := by
      show 2 * ((a : Int) / 3) = _
      unfold Num.need; omega
    have h1 : ((a : Int) % 3 == 1) = false := by rw [beq_eq_false_iff_ne]; omega
    have h2 : ((a : Int) % 3 == 2) = false := by rw [beq_eq_false_iff_ne]; omega
    clear h
    go_enter Tryd.func35, Tryd.ntmps35
    go_wp2
    go_ret
    exact ⟨by rw [← H.out]; rfl, Ext.refl _⟩
  · have H : Hid (2 * ((a : Int) / 3) + 1 = (Num.need a : Nat)) := by
      show 2 * ((a : Int) / 3) + 1 = _
      unfold Num.need; omega
    have h1 : ((a : Int) % 3 == 1) = true := by rw [beq_iff_eq]; omega
    clear h
    go_enter Tryd.func35, Tryd.ntmps35
    go_wp2
    go_ret
    exact ⟨by rw [← H.out]; rfl, Ext.refl _⟩
  · have H : Hid (2 * ((a : Int) / 3) + 2 = (Num.need a : Nat)) := by
      show 2 * ((a : Int) / 3) + 2 = _
      unfold Num.need; omega
    have h1 : ((a : Int) % 3 == 1) = false := by rw [beq_eq_false_iff_ne]; omega
    have h2 : ((a : Int) % 3 == 2) = true := by rw [beq_iff_eq]; omega
    clear h
    go_enter Tryd.func35, Tryd.ntmps35
    go_wp2
    go_ret
    exact ⟨by rw [← H.out]; rfl, Ext.refl _⟩
theorem rmost_any (a b : Nat) (ha : a < 18446744073709551616) (hb : b < 18446744073709551616) (w : World) :
    Calls Tryd.prog 27 #[.int .u64 a, .int .u64 b] w fun e w' => e = .returned (.bool (Num.most a b)) ∧ Ext w w' := by
  have H : Hid (decide (Num.need b ≤ a) = Num.most a b) := by
    show decide (Num.need b ≤ a) = Num.most a b
    unfold Num.most Num.need
    rw [decide_eq_decide]
    omega
  go_enter Tryd.func27, Tryd.ntmps27
  go_wp2_with (go_at_call 35; refine (need_any _ hb _).mono ?_; rintro e w' ⟨rfl, hx⟩)
  go_ret
  exact ⟨by rw [← H.out]; rfl, by assumption⟩
theorem rsome_any (a b : Nat) (ha : a < 18446744073709551616) (hb : b < 18446744073709551616) (w : World) :
    Calls Tryd.prog 28 #[.int .u64 a, .int .u64 b] w fun e w' => e = .returned (.bool (Num.some a b)) ∧ Ext w w' := by
  by_cases h : b % 3 = 0
  · have H : Hid (decide ((b : Int) / 3 ≤ (a : Int)) = Num.some a b) := by
      show decide ((b : Int) / 3 ≤ (a : Int)) = Num.some a b
      unfold Num.some
      rw [decide_eq_decide]
      omega
    have h1 : ((b : Int) % 3 != 0) = false := by simp; omega
    have h2 : ((b : Int) % 3 == 0) = true := by simp; omega
    clear h
    go_enter Tryd.func28, Tryd.ntmps28
    go_wp2
    go_ret
    exact ⟨by rw [← H.out]; rfl, Ext.refl _⟩
  · have H : Hid (decide ((b : Int) / 3 + 1 ≤ (a : Int)) = Num.some a b) := by
      show decide ((b : Int) / 3 + 1 ≤ (a : Int)) = Num.some a b
      unfold Num.some
      rw [decide_eq_decide]
      omega
    have h1 : ((b : Int) % 3 != 0) = true := by rw [bne_iff_ne]; omega
    have h2 : ((b : Int) % 3 == 0) = false := by rw [beq_eq_false_iff_ne]; omega
    clear h
    go_enter Tryd.func28, Tryd.ntmps28
    go_wp2
    go_ret
    exact ⟨by rw [← H.out]; rfl, Ext.refl _⟩





































end Go.Proofs.YtchfaiogiamfbaaDoor
