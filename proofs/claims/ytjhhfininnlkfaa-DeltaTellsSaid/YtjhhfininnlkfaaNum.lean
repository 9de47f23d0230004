/- The contracts of layer 1 (num): each function answers what the plain definitions below say; the world has only grown. -/
import Derived.Test.YtjhhfininnlkfaaBase
import Derived.Lib.Mul64
import Derived.Laws.Bits64b
namespace Go.Proofs.Ytjhhfininnlkfaa
open Go.RowKit
set_option linter.unusedVariables false
set_option linter.unusedSimpArgs false

namespace Num
def M : Nat := 18446744073709551616
def addV (a b : Nat) : Nat := if a + b < M then a + b else 0
def addB (a b : Nat) : Bool := decide (a + b < M)
def subV (a b : Nat) : Nat := a - b
def subB (a b : Nat) : Bool := decide (b ≤ a)
def mulV (a b : Nat) : Nat := if a * b < M then a * b else 0
def mulB (a b : Nat) : Bool := decide (a * b < M)
def up (a b : Nat) : Nat := if a + b < M then a + b else M - 1
def down (a b : Nat) : Nat := a - b
def most (p w : Nat) : Bool := decide (2 * w ≤ 3 * p)
def some (p w : Nat) : Bool := decide (w ≤ 3 * p)
/-- The halves of sums, differences and products. -/
def lo (x : Nat) : Nat := x % M
def hi (x : Nat) : Nat := x / M
def subL (a b : Nat) : Nat := (a + M - b) % M
def subH (a b : Nat) : Nat := if a < b then 1 else 0
theorem addV_lt (a b : Nat) : addV a b < M := by unfold addV; split <;> simp_all [M]
theorem mulV_lt (a b : Nat) : mulV a b < M := by unfold mulV; split <;> simp_all [M]
theorem up_lt (a b : Nat) : up a b < M := by unfold up; split <;> simp_all [M]
theorem hi_zero {x : Nat} : (hi x = 0) ↔ x < M := by unfold hi M; omega
theorem hi_lt {a b : Nat} (ha : a < M) (hb : b < M) : hi (a * b) < M := by
  unfold hi
  have : a * b < M * M := Nat.mul_lt_mul_of_lt_of_lt ha hb
  exact Nat.div_lt_of_lt_mul this
theorem maskN (a : Nat) (ha : a < 18446744073709551616) : bits .and .u64 (a : Int) 4294967295 = ((a % 4294967296 : Nat) : Int) := by
  have h := bits_and_u64_nat a 4294967295 ha (by omega)
  have e : a &&& 4294967295 = a % 4294967296 := Nat.and_two_pow_sub_one_eq_mod a 32
  rw [e] at h
  exact h
theorem divN (a : Nat) : (a : Int) / 4294967296 = ((a / 4294967296 : Nat) : Int) := by omega
theorem mulN (a b : Nat) : (a : Int) * (b : Int) = ((a * b : Nat) : Int) := (Int.natCast_mul a b).symm
theorem addN (a b : Nat) : (a : Int) + (b : Int) = ((a + b : Nat) : Int) := (Int.natCast_add a b).symm
theorem wrapN (a : Nat) (ha : a < 18446744073709551616) : IntKind.u64.wrap (a : Int) = (a : Int) := by rw [IntKind.wrap_u64]; omega
theorem wrapM (a : Nat) : IntKind.u64.wrap (a : Int) = ((a % 18446744073709551616 : Nat) : Int) := by rw [IntKind.wrap_u64]; omega
end Num

/-! ### The carries, as the model gives them -/
theorem run_add64 (a b : Nat) (w : World) :
    (callFunc 44 #[.int .u64 a, .int .u64 b, .int .u64 0]).run Try.prog w = .ok (.value (.tuple #[.int .u64 (Num.lo (a + b) : Nat), .int .u64 (Num.hi (a + b) : Nat)])) w := by
  rw [run_callFunc_extern Try.func44 (by kernel_rfl) (by kernel_rfl) (by kernel_rfl) (e := add64Entry) (by kernel_rfl), Go.run_add64 a b 0 (by omega) (by omega) (by omega) (by omega)]
  simp only [Result.andThen, Num.lo, Num.hi, Num.M]
  congr 5 <;> simp
def sub64Entry : Array Value → Sem Value := fun args => do
  let (x, y, b) ← Extern.MathBitsCarry.three "Sub64" args
  pure (Extern.MathBitsCarry.pair ((x + Extern.MathBitsCarry.m64 - y - b) % Extern.MathBitsCarry.m64) (if x < y + b then 1 else 0))
theorem run_sub64 (a b : Nat) (w : World) :
    (callFunc 45 #[.int .u64 a, .int .u64 b, .int .u64 0]).run Try.prog w = .ok (.value (.tuple #[.int .u64 (Num.subL a b : Nat), .int .u64 (Num.subH a b : Nat)])) w := by
  rw [run_callFunc_extern Try.func45 (by kernel_rfl) (by kernel_rfl) (by kernel_rfl) (e := sub64Entry) (by kernel_rfl)]
  have h : (sub64Entry #[.int .u64 a, .int .u64 b, .int .u64 0]).run Try.prog w = .ok (Extern.MathBitsCarry.pair ((a + Extern.MathBitsCarry.m64 - b - 0) % Extern.MathBitsCarry.m64) (if a < b + 0 then 1 else 0)) w := rfl
  rw [h]
  simp only [Result.andThen, Num.subL, Num.subH, Num.M, Extern.MathBitsCarry.pair, Extern.MathBitsCarry.m64, Nat.sub_zero, Nat.add_zero]
  rfl




















theorem sum_any (a b : Nat) (w : World) :
    Calls Try.prog 55 #[.agg #[.int .u64 a, .int .u64 b]] w fun e w' => e = .returned (.tuple #[.int .u64 (Num.lo (a + b) : Nat), .int .u64 (Num.hi (a + b) : Nat)]) ∧ Ext w w' := by
  have h := run_add64 a b
  go_enter Try.func55, Try.ntmps55
  go_wp2
  go_ret2
  exact ⟨rfl, (Ext.refl _).alloc _⟩














namespace Num
theorem add_is {a b : Nat} (h : hi (a + b) = 0) : lo (a + b) = addV a b ∧ addB a b = true := by
  have := hi_zero.1 h
  exact ⟨by unfold lo addV; rw [if_pos this, Nat.mod_eq_of_lt this], by unfold addB; simp [this]⟩
theorem add_not {a b : Nat} (h : ¬ hi (a + b) = 0) : 0 = addV a b ∧ addB a b = false := by
  have := fun h' => h (hi_zero.2 h')
  exact ⟨by unfold addV; rw [if_neg this], by unfold addB; exact decide_eq_false this⟩
theorem mul_is {a b : Nat} (h : hi (a * b) = 0) : lo (a * b) = mulV a b ∧ mulB a b = true := by
  have := hi_zero.1 h
  exact ⟨by unfold lo mulV; rw [if_pos this, Nat.mod_eq_of_lt this], by unfold mulB; simp [this]⟩
theorem mul_not {a b : Nat} (h : ¬ hi (a * b) = 0) : 0 = mulV a b ∧ mulB a b = false := by
  have := fun h' => h (hi_zero.2 h')
  exact ⟨by unfold mulV; rw [if_neg this], by unfold mulB; exact decide_eq_false this⟩
theorem sub_is {a b : Nat} (ha : a < 18446744073709551616) (hb : b < 18446744073709551616) (h : subH a b = 0) : subL a b = subV a b ∧ subB a b = true := by
  unfold subH at h
  have : b ≤ a := by split at h <;> omega
  exact ⟨by unfold subL subV M; omega, by unfold subB; simp [this]⟩
theorem sub_not {a b : Nat} (h : ¬ subH a b = 0) : 0 = subV a b ∧ subB a b = false := by
  unfold subH at h
  have : a < b := by split at h <;> simp_all
  exact ⟨by unfold subV; omega, by unfold subB; simp; omega⟩
end Num

theorem told_add (a b : Nat) (ha : a < 18446744073709551616) (hb : b < 18446744073709551616) (w : World) :
    Calls Try.prog 54 #[.func (.func 55) #[.agg #[.int .u64 a, .int .u64 b]] #[]] w fun e w' => e = .returned (.tuple #[.int .u64 (Num.addV a b : Nat), .bool (Num.addB a b)]) ∧ Ext w w' := by
  by_cases hz : Num.hi (a + b) = 0
  · have H := Lib.hid (Num.add_is hz)
    have hz' : (((Num.hi (a + b) : Nat) : Int) != 0) = false := by rw [hz]; rfl
    clear hz
    go_enter Try.func54, Try.ntmps54
    go_wp2_with (go_at_call 55; refine (sum_any _ _ _).mono ?_; rintro e w' ⟨rfl, hx⟩)
    go_ret2
    exact ⟨by rw [H.out.1, H.out.2]; rfl, by assumption⟩
  · have H := Lib.hid (Num.add_not hz)
    have hz' : (((Num.hi (a + b) : Nat) : Int) != 0) = true := by rw [bne_iff_ne]; omega
    clear hz
    go_enter Try.func54, Try.ntmps54
    go_wp2_with (go_at_call 55; refine (sum_any _ _ _).mono ?_; rintro e w' ⟨rfl, hx⟩)
    go_ret2
    exact ⟨by rw [← H.out.1, H.out.2]; rfl, by assumption⟩
theorem add_any (a b : Nat) (ha : a < 18446744073709551616) (hb : b < 18446744073709551616) (w : World) :
    Calls Try.prog 50 #[.int .u64 a, .int .u64 b] w fun e w' => e = .returned (.tuple #[.int .u64 (Num.addV a b : Nat), .bool (Num.addB a b)]) ∧ Ext w w' := by
  go_enter Try.func50, Try.ntmps50
  go_wp2_with (go_at_call 54; refine (told_add _ _ ha hb _).mono ?_; rintro e w' ⟨rfl, hx⟩)
  go_ret2
  exact ⟨rfl, by assumption⟩








































































































































































































end Go.Proofs.Ytjhhfininnlkfaa
