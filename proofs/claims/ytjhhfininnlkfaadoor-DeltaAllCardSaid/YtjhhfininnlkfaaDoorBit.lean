/- stake.Bit, and the document's Bit and Has of layer 11. -/
import Derived.Test.YtjhhfininnlkfaaDoorRow
import Derived.Laws.Bits64b
namespace Go.Proofs.YtjhhfininnlkfaaDoor
open Go.RowKit Go.WideShapes Go.ChangeShapes
set_option linter.unusedVariables false
set_option linter.unusedSimpArgs false

namespace Stake
def bitV (v : Int) : Nat := if v < 0 ∨ 64 ≤ v then 0 else 2 ^ v.toNat
theorem bitV_nat {k : Nat} (h : k < 64) : bitV k = 2 ^ k := by unfold bitV; rw [if_neg (by omega)]; simp
theorem and_bit (m k : Nat) : (m &&& 2 ^ k = 0) ↔ m.testBit k = false := by
  constructor
  · intro h
    have := congrArg (fun x => x.testBit k) h
    simpa [Nat.testBit_and, Nat.testBit_two_pow] using this
  · intro h
    apply Nat.eq_of_testBit_eq
    intro i
    rw [Nat.testBit_and, Nat.testBit_two_pow]
    by_cases e : k = i
    · subst e; simp [h]
    · simp [e]
end Stake
theorem bit_any (v : Int) (h1 : -9223372036854775808 ≤ v) (h2 : v ≤ 9223372036854775807) (w : World) :
    Calls Tryd.prog 8 #[.int .i64 v] w fun e w' => e = .returned (.int .u64 (Stake.bitV v : Nat)) ∧ w' = w := by
  by_cases h : v < 0
  · have e : Stake.bitV v = 0 := by unfold Stake.bitV; rw [if_pos (.inl h)]
    rw [e]
    go_enter Tryd.func8, Tryd.ntmps8
    go_wp2
    go_ret
    exact ⟨rfl, rfl⟩
  · have hs : (0 : Int) ≤ v := by omega
    by_cases h64 : 64 ≤ v
    · have e : Stake.bitV v = 0 := by unfold Stake.bitV; rw [if_pos (.inr h64)]
      rw [e]
      go_enter Tryd.func8, Tryd.ntmps8
      go_wp2
      go_ret
      exact ⟨by rw [show IntKind.u64.wrap 18446744073709551616 = 0 by rw [IntKind.wrap_u64]; rfl]; rfl, rfl⟩
    · obtain ⟨k, rfl⟩ := Int.eq_ofNat_of_zero_le hs
      have e : Stake.bitV k = 2 ^ k := by unfold Stake.bitV; rw [if_neg (by omega)]; simp
      rw [e]
      go_enter Tryd.func8, Tryd.ntmps8
      go_wp2
      go_ret
      have hk : 2 ^ k < 2 ^ 64 := Nat.pow_lt_pow_right (by omega) (by omega)
      have : IntKind.u64.wrap (2 ^ k : Int) = ((2 ^ k : Nat) : Int) := by
        rw [IntKind.wrap_u64, show ((2 : Int) ^ k) = ((2 ^ k : Nat) : Int) by simp]
        omega
      exact ⟨by rw [this]; simp, rfl⟩































































































end Go.Proofs.YtjhhfininnlkfaaDoor
