/- The contracts of layer 1's references, and of the chapter's examples: the same answers as layer 1's. -/
import Derived.Test.YthonlbimdbdfgaaNum
namespace Go.Proofs.Ythonlbimdbdfgaa
open Go.RowKit
set_option linter.unusedVariables false

theorem radd_any (a b : Nat) (ha : a < 18446744073709551616) (hb : b < 18446744073709551616) (w : World) :
    Calls Try.prog 19 #[.int .u64 a, .int .u64 b] w fun e w' => e = .returned (.tuple #[.int .u64 (Num.addV a b : Nat), .bool (Num.addB a b)]) ∧ Ext w w' := by
  by_cases h : a + b < Num.M
  · have H : Hid (((a + b : Nat) : Int) = (Num.addV a b : Nat) ∧ true = Num.addB a b) := by
      refine ⟨?_, ?_⟩
      · unfold Num.addV; rw [if_pos h]
      · unfold Num.addB; simp [h]
    unfold Num.M at h
    have h' : ¬ (18446744073709551615 - (b : Int)) < a := by omega
    go_enter Try.func19, Try.ntmps19
    go_wp2
    go_ret2
    exact ⟨by rw [← H.out.1, ← H.out.2]; rfl, Ext.refl _⟩
  · have H : Hid (((0 : Nat) : Int) = (Num.addV a b : Nat) ∧ false = Num.addB a b) := by
      refine ⟨?_, ?_⟩
      · unfold Num.addV; rw [if_neg h]
      · unfold Num.addB; simp; omega
    unfold Num.M at h
    have h' : (18446744073709551615 - (b : Int)) < a := by omega
    go_enter Try.func19, Try.ntmps19
    go_wp2
    go_ret2
    exact ⟨by rw [← H.out.1, ← H.out.2]; rfl, Ext.refl _⟩
theorem rsub_any (a b : Nat) (ha : a < 18446744073709551616) (hb : b < 18446744073709551616) (w : World) :
    Calls Try.prog 20 #[.int .u64 a, .int .u64 b] w fun e w' => e = .returned (.tuple #[.int .u64 (Num.subV a b : Nat), .bool (Num.subB a b)]) ∧ Ext w w' := by
  by_cases h : b ≤ a
  · have H : Hid (((a : Int) - b) = (Num.subV a b : Nat) ∧ true = Num.subB a b) := by
      refine ⟨?_, ?_⟩
      · unfold Num.subV; omega
      · unfold Num.subB; simp [h]
    go_enter Try.func20, Try.ntmps20
    go_wp2
    go_ret2
    exact ⟨by rw [← H.out.1, ← H.out.2]; rfl, Ext.refl _⟩
  · have H : Hid (((0 : Nat) : Int) = (Num.subV a b : Nat) ∧ false = Num.subB a b) := by
      refine ⟨?_, ?_⟩
      · unfold Num.subV; omega
      · unfold Num.subB; simp; omega
    have h' : a < b := by omega
    go_enter Try.func20, Try.ntmps20
    go_wp2
    go_ret2
    exact ⟨by rw [← H.out.1, ← H.out.2]; rfl, Ext.refl _⟩
theorem Num.mul_le_div {a b : Nat} (ha : 0 < a) : b ≤ 18446744073709551615 / a ↔ a * b < 18446744073709551616 := by
  rw [Nat.le_div_iff_mul_le ha, Nat.mul_comm]
  omega
theorem Num.div_cast (a : Nat) : (18446744073709551615 : Int) / (a : Int) = ((18446744073709551615 / a : Nat) : Int) := (Int.natCast_ediv 18446744073709551615 a).symm
theorem rmul_any (a b : Nat) (ha : a < 18446744073709551616) (hb : b < 18446744073709551616) (w : World) :
    Calls Try.prog 21 #[.int .u64 a, .int .u64 b] w fun e w' => e = .returned (.tuple #[.int .u64 (Num.mulV a b : Nat), .bool (Num.mulB a b)]) ∧ Ext w w' := by
  by_cases hz : a = 0
  · subst hz
    have H : Hid (0 = Num.mulV 0 b ∧ true = Num.mulB 0 b) := by
      refine ⟨?_, ?_⟩
      · unfold Num.mulV; simp
      · unfold Num.mulB; simp [Num.M]
    go_enter Try.func21, Try.ntmps21
    go_wp2
    go_ret2
    exact ⟨by rw [← H.out.1, ← H.out.2]; rfl, Ext.refl _⟩
  · have hz' : ((a : Int) != 0) = true := by rw [bne_iff_ne]; omega
    have hz1 : ((a : Int) == 0) = false := by rw [beq_eq_false_iff_ne]; omega
    have hq := Num.mul_le_div (a := a) (b := b) (by omega)
    by_cases h : a * b < Num.M
    · have H : Hid ((a : Int) * b = (Num.mulV a b : Nat) ∧ true = Num.mulB a b) := by
        refine ⟨?_, ?_⟩
        · unfold Num.mulV; rw [if_pos h, Num.mulN]
        · unfold Num.mulB; simp [h]
      have h' : ¬ ((18446744073709551615 : Int) / a) < b := by
        have := hq.2 h
        rw [Num.div_cast]
        omega
      unfold Num.M at h
      clear hq
      go_enter Try.func21, Try.ntmps21
      go_wp2
      go_ret2
      exact ⟨by rw [← H.out.1, ← H.out.2]; rfl, Ext.refl _⟩
    · have H : Hid (((0 : Nat) : Int) = (Num.mulV a b : Nat) ∧ false = Num.mulB a b) := by
        refine ⟨?_, ?_⟩
        · unfold Num.mulV; rw [if_neg h]
        · unfold Num.mulB; exact (decide_eq_false h).symm
      have h' : ((18446744073709551615 : Int) / a) < b := by
        have := fun x => h (hq.1 x)
        unfold Num.M at h
        rw [Num.div_cast]
        omega
      unfold Num.M at h
      clear hq h
      go_enter Try.func21, Try.ntmps21
      go_wp2
      go_ret2
      exact ⟨by rw [← H.out.1, ← H.out.2]; rfl, Ext.refl _⟩
theorem rup_any (a b : Nat) (ha : a < 18446744073709551616) (hb : b < 18446744073709551616) (w : World) :
    Calls Try.prog 24 #[.int .u64 a, .int .u64 b] w fun e w' => e = .returned (.int .u64 (Num.up a b : Nat)) ∧ Ext w w' := by
  by_cases h : a + b < Num.M
  · have H : Hid (((a + b : Nat) : Int) = (Num.up a b : Nat)) := by
      show ((a + b : Nat) : Int) = _
      unfold Num.up; rw [if_pos h]
    unfold Num.M at h
    have h' : ¬ (18446744073709551615 - (b : Int)) < a := by omega
    go_enter Try.func24, Try.ntmps24
    go_wp2
    go_ret
    exact ⟨by rw [← H.out]; rfl, Ext.refl _⟩
  · have H : Hid (((18446744073709551615 : Nat) : Int) = (Num.up a b : Nat)) := by
      show ((18446744073709551615 : Nat) : Int) = _
      unfold Num.up; rw [if_neg h]; rfl
    unfold Num.M at h
    have h' : (18446744073709551615 - (b : Int)) < a := by omega
    go_enter Try.func24, Try.ntmps24
    go_wp2
    go_ret
    exact ⟨by rw [← H.out]; rfl, Ext.refl _⟩
theorem rdown_any (a b : Nat) (ha : a < 18446744073709551616) (hb : b < 18446744073709551616) (w : World) :
    Calls Try.prog 25 #[.int .u64 a, .int .u64 b] w fun e w' => e = .returned (.int .u64 (Num.down a b : Nat)) ∧ Ext w w' := by
  by_cases h : a < b
  · have H : Hid (((0 : Nat) : Int) = (Num.down a b : Nat)) := by
      show ((0 : Nat) : Int) = _
      unfold Num.down; omega
    go_enter Try.func25, Try.ntmps25
    go_wp2
    go_ret
    exact ⟨by rw [← H.out]; rfl, Ext.refl _⟩
  · have H : Hid ((a : Int) - b = (Num.down a b : Nat)) := by
      show (a : Int) - b = _
      unfold Num.down; omega
    go_enter Try.func25, Try.ntmps25
    go_wp2
    go_ret
    exact ⟨by rw [← H.out]; rfl, Ext.refl _⟩
def Num.need (w : Nat) : Nat := 2 * (w / 3) + w % 3
theorem need_any (a : Nat) (ha : a < 18446744073709551616) (w : World) :
    Calls Try.prog 32 #[.int .u64 a] w fun e w' => e = .returned (.int .u64 (Num.need a : Nat)) ∧ Ext w w' := by
  have hr : a % 3 = 0 ∨ a % 3 = 1 ∨ a % 3 = 2 := by omega
  rcases hr with h | h | h
  · have H : Hid (2 * ((a : Int) / 3) = (Num.need a : Nat)) := by
      show 2 * ((a : Int) / 3) = _
      unfold Num.need; omega
    have h1 : ((a : Int) % 3 == 1) = false := by rw [beq_eq_false_iff_ne]; omega
    have h2 : ((a : Int) % 3 == 2) = false := by rw [beq_eq_false_iff_ne]; omega
    clear h
    go_enter Try.func32, Try.ntmps32
    go_wp2
    go_ret
    exact ⟨by rw [← H.out]; rfl, Ext.refl _⟩
  · have H : Hid (2 * ((a : Int) / 3) + 1 = (Num.need a : Nat)) := by
      show 2 * ((a : Int) / 3) + 1 = _
      unfold Num.need; omega
    have h1 : ((a : Int) % 3 == 1) = true := by rw [beq_iff_eq]; omega
    clear h
    go_enter Try.func32, Try.ntmps32
    go_wp2
    go_ret
    exact ⟨by rw [← H.out]; rfl, Ext.refl _⟩
  · have H : Hid (2 * ((a : Int) / 3) + 2 = (Num.need a : Nat)) := by
      show 2 * ((a : Int) / 3) + 2 = _
      unfold Num.need; omega
    have h1 : ((a : Int) % 3 == 1) = false := by rw [beq_eq_false_iff_ne]; omega
    have h2 : ((a : Int) % 3 == 2) = true := by rw [beq_iff_eq]; omega
    clear h
    go_enter Try.func32, Try.ntmps32
    go_wp2
    go_ret
    exact ⟨by rw [← H.out]; rfl, Ext.refl _⟩
theorem rmost_any (a b : Nat) (ha : a < 18446744073709551616) (hb : b < 18446744073709551616) (w : World) :
    Calls Try.prog 22 #[.int .u64 a, .int .u64 b] w fun e w' => e = .returned (.bool (Num.most a b)) ∧ Ext w w' := by
  have H : Hid (decide (Num.need b ≤ a) = Num.most a b) := by
    show decide (Num.need b ≤ a) = Num.most a b
    unfold Num.most Num.need
    rw [decide_eq_decide]
    omega
  go_enter Try.func22, Try.ntmps22
  go_wp2_with (go_at_call 32; refine (need_any _ hb _).mono ?_; rintro e w' ⟨rfl, hx⟩)
  go_ret
  exact ⟨by rw [← H.out]; rfl, by assumption⟩
theorem rsome_any (a b : Nat) (ha : a < 18446744073709551616) (hb : b < 18446744073709551616) (w : World) :
    Calls Try.prog 23 #[.int .u64 a, .int .u64 b] w fun e w' => e = .returned (.bool (Num.some a b)) ∧ Ext w w' := by
  by_cases h : b % 3 = 0
  · have H : Hid (decide ((b : Int) / 3 ≤ (a : Int)) = Num.some a b) := by
      show decide ((b : Int) / 3 ≤ (a : Int)) = Num.some a b
      unfold Num.some
      rw [decide_eq_decide]
      omega
    have h1 : ((b : Int) % 3 != 0) = false := by simp; omega
    have h2 : ((b : Int) % 3 == 0) = true := by simp; omega
    clear h
    go_enter Try.func23, Try.ntmps23
    go_wp2
    go_ret
    exact ⟨by rw [← H.out]; rfl, Ext.refl _⟩
  · have H : Hid (decide ((b : Int) / 3 + 1 ≤ (a : Int)) = Num.some a b) := by
      show decide ((b : Int) / 3 + 1 ≤ (a : Int)) = Num.some a b
      unfold Num.some
      rw [decide_eq_decide]
      omega
    have h1 : ((b : Int) % 3 != 0) = true := by rw [bne_iff_ne]; omega
    have h2 : ((b : Int) % 3 == 0) = false := by rw [beq_eq_false_iff_ne]; omega
    clear h
    go_enter Try.func23, Try.ntmps23
    go_wp2
    go_ret
    exact ⟨by rw [← H.out]; rfl, Ext.refl _⟩

/-- The chapter's examples: true. -/
theorem awake_any (w : World) : Calls Try.prog 11 #[] w fun e w' => e = .returned (.bool true) ∧ Ext w w' := by
  have a1 : ∀ W, Calls Try.prog 14 #[.int .u64 2, .int .u64 3] W fun e w' => e = .returned (.tuple #[.int .u64 5, .bool true]) ∧ Ext W w' := fun W => add_any 2 3 (by omega) (by omega) W
  have a2 : ∀ W, Calls Try.prog 17 #[.int .u64 2, .int .u64 3] W fun e w' => e = .returned (.tuple #[.int .u64 0, .bool false]) ∧ Ext W w' := fun W => sub_any 2 3 (by omega) (by omega) W
  have a3 : ∀ W, Calls Try.prog 12 #[.int .u64 2, .int .u64 3] W fun e w' => e = .returned (.bool true) ∧ Ext W w' := fun W => most_any 2 3 (by omega) (by omega) W
  have a4 : ∀ W, Calls Try.prog 12 #[.int .u64 1, .int .u64 3] W fun e w' => e = .returned (.bool false) ∧ Ext W w' := fun W => most_any 1 3 (by omega) (by omega) W
  have a5 : ∀ W, Calls Try.prog 13 #[.int .u64 1, .int .u64 3] W fun e w' => e = .returned (.bool true) ∧ Ext W w' := fun W => some_any 1 3 (by omega) (by omega) W
  have a6 : ∀ W, Calls Try.prog 12 #[.int .u64 0, .int .u64 0] W fun e w' => e = .returned (.bool true) ∧ Ext W w' := fun W => most_any 0 0 (by omega) (by omega) W
  have a7 : ∀ W, Calls Try.prog 15 #[.int .u64 9223372036854775808, .int .u64 9223372036854775808] W fun e w' => e = .returned (.int .u64 18446744073709551615) ∧ Ext W w' := fun W => up_any 9223372036854775808 9223372036854775808 (by omega) (by omega) W
  have A1 := Lib.hid a1; have A2 := Lib.hid a2; have A3 := Lib.hid a3; have A4 := Lib.hid a4; have A5 := Lib.hid a5; have A6 := Lib.hid a6; have A7 := Lib.hid a7
  clear a1 a2 a3 a4 a5 a6 a7
  go_enter Try.func11, Try.ntmps11
  go_wp2_with fail
  refine (A1.out _).mono ?_
  rintro e w1 ⟨rfl, hx1⟩
  go_wp2_with fail
  refine (A2.out _).mono ?_
  rintro e w2 ⟨rfl, hx2⟩
  go_wp2_with fail
  refine (A3.out _).mono ?_
  rintro e w3 ⟨rfl, hx3⟩
  go_wp2_with fail
  refine (A4.out _).mono ?_
  rintro e w4 ⟨rfl, hx4⟩
  go_wp2_with fail
  refine (A5.out _).mono ?_
  rintro e w5 ⟨rfl, hx5⟩
  go_wp2_with fail
  refine (A6.out _).mono ?_
  rintro e w6 ⟨rfl, hx6⟩
  go_wp2_with fail
  refine (A7.out _).mono ?_
  rintro e w7 ⟨rfl, hx7⟩
  go_wp2_with fail
  go_ret
  exact ⟨rfl, (((((hx1.trans hx2).trans hx3).trans hx4).trans hx5).trans hx6).trans hx7⟩
end Go.Proofs.Ythonlbimdbdfgaa
