/- stake.Bit, and the document's Bit and Has of layer 11. -/
import Derived.Test.YtjhhfininnlkfaaRow
import Derived.Laws.Bits64b
namespace Go.Proofs.Ytjhhfininnlkfaa
open Go.RowKit Go.WideShapes Go.ChangeShapes
set_option linter.unusedVariables false
set_option linter.unusedSimpArgs false

namespace Stake
def bitV (v : Int) : Nat := if v < 0 ∨ 64 ≤ v then 0 else 2 ^ v.toNat
theorem bitV_nat {k : Nat} (h : k < 64) : bitV k = 2 ^ k := by unfold bitV; rw [if_neg (by omega)]; simp
theorem and_bit (m k : Nat) : (m &&& 2 ^ k = 0) ↔ m.testBit k = false := by
  constructor
  · intro h
    have := congrArg (fun x => x.testBit k) h
    simpa [Nat.testBit_and, Nat.testBit_two_pow] using this
  · intro h
    apply Nat.eq_of_testBit_eq
    intro i
    rw [Nat.testBit_and, Nat.testBit_two_pow]
    by_cases e : k = i
    · subst e; simp [h]
    · simp [e]
end Stake
theorem bit_any (v : Int) (h1 : -9223372036854775808 ≤ v) (h2 : v ≤ 9223372036854775807) (w : World) :
    Calls Try.prog 29 #[.int .i64 v] w fun e w' => e = .returned (.int .u64 (Stake.bitV v : Nat)) ∧ w' = w := by
  by_cases h : v < 0
  · have e : Stake.bitV v = 0 := by unfold Stake.bitV; rw [if_pos (.inl h)]
    rw [e]
    go_enter Try.func29, Try.ntmps29
    go_wp2
    go_ret
    exact ⟨rfl, rfl⟩
  · have hs : (0 : Int) ≤ v := by omega
    by_cases h64 : 64 ≤ v
    · have e : Stake.bitV v = 0 := by unfold Stake.bitV; rw [if_pos (.inr h64)]
      rw [e]
      go_enter Try.func29, Try.ntmps29
      go_wp2
      go_ret
      exact ⟨by rw [show IntKind.u64.wrap 18446744073709551616 = 0 by rw [IntKind.wrap_u64]; rfl]; rfl, rfl⟩
    · obtain ⟨k, rfl⟩ := Int.eq_ofNat_of_zero_le hs
      have e : Stake.bitV k = 2 ^ k := by unfold Stake.bitV; rw [if_neg (by omega)]; simp
      rw [e]
      go_enter Try.func29, Try.ntmps29
      go_wp2
      go_ret
      have hk : 2 ^ k < 2 ^ 64 := Nat.pow_lt_pow_right (by omega) (by omega)
      have : IntKind.u64.wrap (2 ^ k : Int) = ((2 ^ k : Nat) : Int) := by
        rw [IntKind.wrap_u64, show ((2 : Int) ^ k) = ((2 ^ k : Nat) : Int) by simp]
        omega
      exact ⟨by rw [this]; simp, rfl⟩
namespace Stake
/-- Has a mask a bit? -/
def hasV (m : Nat) (v : Int) : Bool := decide (0 ≤ v ∧ v < 64) && m.testBit v.toNat
theorem hasV_nat (m : Nat) {v : Nat} (h : v < 64) : hasV m v = m.testBit v := by unfold hasV; rw [decide_eq_true (by omega)]; simp
end Stake
set_option maxHeartbeats 2000000 in
theorem refBit_any (v : Int) (h1 : -9223372036854775808 ≤ v) (h2 : v ≤ 9223372036854775807) (w : World) :
    Calls Try.prog 53 #[.int .i64 v] w fun e w' => e = .returned (.int .u64 (Stake.bitV v : Nat)) ∧ w' = w := by
  by_cases h : v < 0
  · have e : Stake.bitV v = 0 := by unfold Stake.bitV; rw [if_pos (.inl h)]
    rw [e]
    go_enter Try.func53, Try.ntmps53
    go_wp2
    go_ret
    exact ⟨rfl, rfl⟩
  · by_cases h64 : 63 < v
    · have e : Stake.bitV v = 0 := by unfold Stake.bitV; rw [if_pos (.inr (by omega))]
      rw [e]
      go_enter Try.func53, Try.ntmps53
      go_wp2
      go_ret
      exact ⟨rfl, rfl⟩
    · obtain ⟨n, rfl⟩ := Int.eq_ofNat_of_zero_le (show 0 ≤ v by omega)
      have e : Stake.bitV n = 2 ^ n := by unfold Stake.bitV; rw [if_neg (by omega)]; simp
      rw [e]
      clear e
      go_enter Try.func53, Try.ntmps53
      go_wp2
      go_loopw [3, 4] (fun o i wr => ∃ k : Nat, k ≤ n ∧ i = .int .i64 k ∧ o = .int .u64 (2 ^ k : Nat) ∧ wr = w) (fun _ i _ => n - (intOf i).toNat)
      case atStart => exact ⟨0, Nat.zero_le _, rfl, rfl, rfl⟩
      case round =>
        obtain ⟨k, hk, rfl, rfl, rfl⟩ := hrel
        by_cases hlt : k < n
        · have hp : 2 ^ (k + 1) ≤ 2 ^ 63 := Nat.pow_le_pow_right (by omega) (by omega)
          have hp' := Nat.pow_succ 2 k
          have hw : IntKind.u64.wrap (2 * ((2 ^ k : Nat) : Int)) = ((2 ^ (k + 1) : Nat) : Int) := by rw [IntKind.wrap_u64]; omega
          generalize hX : 2 ^ k = X at hw hp'
          generalize hY : 2 ^ (k + 1) = Y at hw hp hp'
          have HY := Lib.hid hY
          clear hY hX hp hp'
          go_wp2
          go_roundw
          case rel => exact ⟨k + 1, by omega, by go_num, by rw [HY.out], by first | rfl | trivial⟩
          case measure => simp [intOf]; omega
        · have e : k = n := by omega
          subst e
          go_wp2
          go_ret
          exact ⟨by first | rfl | simp, rfl⟩
set_option maxHeartbeats 2000000 in
theorem refHas_any (m : Nat) (hm : m < 18446744073709551616) (v : Int) (h1 : -9223372036854775808 ≤ v) (h2 : v ≤ 9223372036854775807) (w : World) :
    Calls Try.prog 49 #[.int .u64 m, .int .i64 v] w fun e w' => e = .returned (.bool (Stake.hasV m v)) ∧ w' = w := by
  have HB := Lib.hid (fun W => refBit_any v h1 h2 W)
  by_cases h : 0 ≤ v ∧ v < 64
  · obtain ⟨n, rfl⟩ := Int.eq_ofNat_of_zero_le h.1
    have e : Stake.bitV n = 2 ^ n := by unfold Stake.bitV; rw [if_neg (by omega)]; simp
    rw [e] at HB
    rw [Stake.hasV_nat m (by omega), Nat.testBit_eq_decide_div_mod_eq]
    have hp : 0 < 2 ^ n := Nat.two_pow_pos n
    have hp' : 2 ^ n ≤ 2 ^ 63 := Nat.pow_le_pow_right (by omega) (by omega)
    generalize 2 ^ n = X at *
    clear e
    have hlt : m / X < 18446744073709551616 := Nat.lt_of_le_of_lt (Nat.div_le_self _ _) hm
    obtain ⟨q, hq0⟩ : ∃ q, m / X = q := ⟨_, rfl⟩
    have hw : IntKind.u64.wrap ((m : Int) / (X : Int)) = (q : Int) := by rw [← Int.natCast_ediv, hq0, IntKind.wrap_u64]; omega
    rw [hq0]
    have hq : Hid (((q : Int) % 2 == 1) = decide (q % 2 = 1)) := by
      show ((q : Int) % 2 == 1) = decide (q % 2 = 1)
      rw [Bool.eq_iff_iff]
      simp
      omega
    clear hq0
    clear hlt
    have g1 : (0 : Int) < (X : Int) := by omega
    have g2 : ((X : Int) == 0) = false := by simp; omega
    go_enter Try.func49, Try.ntmps49
    go_wp2_with fail
    refine (HB.out _).mono ?_
    rintro e w' ⟨rfl, rfl⟩
    go_wp2
    go_ret
    exact ⟨by rw [hq.out]; rfl, rfl⟩
  · have e : Stake.bitV v = 0 := by unfold Stake.bitV; rw [if_pos (by omega)]
    have e2 : Stake.hasV m v = false := by unfold Stake.hasV; rw [decide_eq_false h]; rfl
    rw [e] at HB
    rw [e2]
    clear e e2
    go_enter Try.func49, Try.ntmps49
    go_wp2_with fail
    refine (HB.out _).mono ?_
    rintro e w' ⟨rfl, rfl⟩
    go_wp2
    go_ret
    exact ⟨rfl, rfl⟩

end Go.Proofs.Ytjhhfininnlkfaa
