/- The contracts of layer 1's references, and of the chapter's examples: the same answers as layer 1's. -/
import Derived.Test.YtjhhfininnlkfaaNum
namespace Go.Proofs.Ytjhhfininnlkfaa
open Go.RowKit
set_option linter.unusedVariables false
set_option linter.unusedSimpArgs false

theorem radd_any (a b : Nat) (ha : a < 18446744073709551616) (hb : b < 18446744073709551616) (w : World) :
    Calls Try.prog 41 #[.int .u64 a, .int .u64 b] w fun e w' => e = .returned (.tuple #[.int .u64 (Num.addV a b : Nat), .bool (Num.addB a b)]) ∧ Ext w w' := by
  by_cases h : a + b < Num.M
  · have H : Hid (((a + b : Nat) : Int) = (Num.addV a b : Nat) ∧ true = Num.addB a b) := by
      refine ⟨?_, ?_⟩
      · unfold Num.addV; rw [if_pos h]
      · unfold Num.addB; simp [h]
    unfold Num.M at h
    have h' : ¬ (18446744073709551615 - (b : Int)) < a := by omega
    go_enter Try.func41, Try.ntmps41
    go_wp2
    go_ret2
    exact ⟨by rw [← H.out.1, ← H.out.2]; rfl, Ext.refl _⟩
  · have H : Hid (((0 : Nat) : Int) = (Num.addV a b : Nat) ∧ false = Num.addB a b) := by
      refine ⟨?_, ?_⟩
      · unfold Num.addV; rw [if_neg h]
      · unfold Num.addB; simp; omega
    unfold Num.M at h
    have h' : (18446744073709551615 - (b : Int)) < a := by omega
    go_enter Try.func41, Try.ntmps41
    go_wp2
    go_ret2
    exact ⟨by rw [← H.out.1, ← H.out.2]; rfl, Ext.refl _⟩
























































































































































































































end Go.Proofs.Ytjhhfininnlkfaa
