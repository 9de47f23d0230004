/- The contracts of layer 1 (num): each function answers what the plain definitions below say; the world has only grown. -/
import Derived.Test.YtchfaiogiamfbaaDoorBase
import Derived.Lib.Mul64
import Derived.Laws.Bits64b
namespace Go.Proofs.YtchfaiogiamfbaaDoor
open Go.RowKit
set_option linter.unusedVariables false
set_option linter.unusedSimpArgs false

namespace Num
def M : Nat := 18446744073709551616
def addV (a b : Nat) : Nat := if a + b < M then a + b else 0
def addB (a b : Nat) : Bool := decide (a + b < M)
def subV (a b : Nat) : Nat := a - b
def subB (a b : Nat) : Bool := decide (b ≤ a)
def mulV (a b : Nat) : Nat := if a * b < M then a * b else 0
def mulB (a b : Nat) : Bool := decide (a * b < M)
def up (a b : Nat) : Nat := if a + b < M then a + b else M - 1
def down (a b : Nat) : Nat := a - b
def most (p w : Nat) : Bool := decide (2 * w ≤ 3 * p)
def some (p w : Nat) : Bool := decide (w ≤ 3 * p)
/-- The halves of sums, differences and products. -/
def lo (x : Nat) : Nat := x % M
def hi (x : Nat) : Nat := x / M
def subL (a b : Nat) : Nat := (a + M - b) % M
def subH (a b : Nat) : Nat := if a < b then 1 else 0
theorem addV_lt (a b : Nat) : addV a b < M := by unfold addV; split <;> simp_all [M]
theorem mulV_lt (a b : Nat) : mulV a b < M := by unfold mulV; split <;> simp_all [M]
theorem up_lt (a b : Nat) : up a b < M := by unfold up; split <;> simp_all [M]
theorem hi_zero {x : Nat} : (hi x = 0) ↔ x < M := by unfold hi M; omega
theorem hi_lt {a b : Nat} (ha : a < M) (hb : b < M) : hi (a * b) < M := by
  unfold hi
  have : a * b < M * M := Nat.mul_lt_mul_of_lt_of_lt ha hb
  exact Nat.div_lt_of_lt_mul this
theorem maskN (a : Nat) (ha : a < 18446744073709551616) : bits .and .u64 (a : Int) 4294967295 = ((a % 4294967296 : Nat) : Int) := by
  have h := bits_and_u64_nat a 4294967295 ha (by omega)
  have e : a &&& 4294967295 = a % 4294967296 := Nat.and_two_pow_sub_one_eq_mod a 32
  rw [e] at h
  exact h
theorem divN (a : Nat) : (a : Int) / 4294967296 = ((a / 4294967296 : Nat) : Int) := by omega
theorem mulN (a b : Nat) : (a : Int) * (b : Int) = ((a * b : Nat) : Int) := (Int.natCast_mul a b).symm
theorem addN (a b : Nat) : (a : Int) + (b : Int) = ((a + b : Nat) : Int) := (Int.natCast_add a b).symm
theorem wrapN (a : Nat) (ha : a < 18446744073709551616) : IntKind.u64.wrap (a : Int) = (a : Int) := by rw [IntKind.wrap_u64]; omega
theorem wrapM (a : Nat) : IntKind.u64.wrap (a : Int) = ((a % 18446744073709551616 : Nat) : Int) := by rw [IntKind.wrap_u64]; omega
end Num

/-! ### The carries, as the model gives them -/
















set_option maxHeartbeats 1000000 in
theorem mul64_any (x y : Nat) (hx : x < 18446744073709551616) (hy : y < 18446744073709551616) (w : World) :
    Calls Tryd.prog 39 #[.int .u64 x, .int .u64 y] w fun e w' => e = .returned (.tuple #[.int .u64 (Num.hi (x * y) : Nat), .int .u64 (Num.lo (x * y) : Nat)]) ∧ w = w' := by
  obtain ⟨bd, bt, bw, hhi⟩ := Lib.mul64_hi x y hx hy
  have ba := Lib.half_mul_le (a := x / 4294967296) (b := y / 4294967296) (by omega) (by omega)
  have bb := Lib.half_mul_le (a := x / 4294967296) (b := y % 4294967296) (by omega) (by omega)
  have bc := Lib.half_mul_le (a := x % 4294967296) (b := y / 4294967296) (by omega) (by omega)
  have ba' : x / 4294967296 * (y / 4294967296) < 18446744073709551616 := by omega
  have bb' : x / 4294967296 * (y % 4294967296) < 18446744073709551616 := by omega
  have bc' : x % 4294967296 * (y / 4294967296) < 18446744073709551616 := by omega
  have bh1 : x / 4294967296 * (y / 4294967296) + (x / 4294967296 * (y % 4294967296) + x % 4294967296 * (y % 4294967296) / 4294967296) / 4294967296 < 18446744073709551616 := by omega
  have bh : x / 4294967296 * (y / 4294967296) + (x / 4294967296 * (y % 4294967296) + x % 4294967296 * (y % 4294967296) / 4294967296) / 4294967296 + ((x / 4294967296 * (y % 4294967296) + x % 4294967296 * (y % 4294967296) / 4294967296) % 4294967296 + x % 4294967296 * (y / 4294967296)) / 4294967296 < 18446744073709551616 := by omega
  go_enter Tryd.func39, Tryd.ntmps39
  go_wp2
  simp only [Num.maskN x hx, Num.maskN y hy, Num.divN, Num.mulN, Num.addN, Num.wrapN _ bd, Num.wrapN _ bb', Num.wrapN _ bt, Num.maskN _ bt, Num.wrapN _ bc', Num.wrapN _ bw, Num.wrapN _ ba', Num.wrapN _ bh1, Num.wrapN _ bh, Num.wrapM (x * y)]
  rw [hhi]
  go_ret2
  exact ⟨rfl, rfl⟩






















namespace Num
theorem add_is {a b : Nat} (h : hi (a + b) = 0) : lo (a + b) = addV a b ∧ addB a b = true := by
  have := hi_zero.1 h
  exact ⟨by unfold lo addV; rw [if_pos this, Nat.mod_eq_of_lt this], by unfold addB; simp [this]⟩
theorem add_not {a b : Nat} (h : ¬ hi (a + b) = 0) : 0 = addV a b ∧ addB a b = false := by
  have := fun h' => h (hi_zero.2 h')
  exact ⟨by unfold addV; rw [if_neg this], by unfold addB; exact decide_eq_false this⟩
theorem mul_is {a b : Nat} (h : hi (a * b) = 0) : lo (a * b) = mulV a b ∧ mulB a b = true := by
  have := hi_zero.1 h
  exact ⟨by unfold lo mulV; rw [if_pos this, Nat.mod_eq_of_lt this], by unfold mulB; simp [this]⟩
theorem mul_not {a b : Nat} (h : ¬ hi (a * b) = 0) : 0 = mulV a b ∧ mulB a b = false := by
  have := fun h' => h (hi_zero.2 h')
  exact ⟨by unfold mulV; rw [if_neg this], by unfold mulB; exact decide_eq_false this⟩
theorem sub_is {a b : Nat} (ha : a < 18446744073709551616) (hb : b < 18446744073709551616) (h : subH a b = 0) : subL a b = subV a b ∧ subB a b = true := by
  unfold subH at h
  have : b ≤ a := by split at h <;> omega
  exact ⟨by unfold subL subV M; omega, by unfold subB; simp [this]⟩
theorem sub_not {a b : Nat} (h : ¬ subH a b = 0) : 0 = subV a b ∧ subB a b = false := by
  unfold subH at h
  have : a < b := by split at h <;> simp_all
  exact ⟨by unfold subV; omega, by unfold subB; simp; omega⟩
end Num





























































theorem times_any (a b : Nat) (ha : a < 18446744073709551616) (hb : b < 18446744073709551616) (w : World) :
    Calls Tryd.prog 37 #[.int .u64 a, .int .u64 b] w fun e w' => e = .returned (.agg #[.int .u64 (Num.hi (a * b) : Nat), .int .u64 (Num.lo (a * b) : Nat)]) ∧ Ext w w' := by
  go_enter Tryd.func37, Tryd.ntmps37
  go_wp2_with (go_at_call 39; refine (mul64_any _ _ ha hb _).mono ?_; rintro e w' ⟨rfl, rfl⟩)
  refine bodyPost_ret (v := .agg #[.int .u64 (Num.hi (a * b) : Nat), .int .u64 (Num.lo (a * b) : Nat)]) (by simp [results, Tryd.results37, go_sem]) rfl ⟨rfl, ?_⟩
  exact (Ext.refl _).alloc _

theorem wide_key : KeyT Tryd.prog 47 := ⟨by kernel_rfl, by kernel_rfl, by kernel_rfl, by kernel_rfl⟩
theorem wide_keyed (a b : Nat) (ha : a < 18446744073709551616) (hb : b < 18446744073709551616) : Keyed Tryd.prog 47 (.agg #[.int .u64 a, .int .u64 b]) := by
  have wa : (Lit.int .u64 (a : Int)).wf = true := by simp [Lit.wf, IntKind.min, IntKind.max, IntKind.signed, IntKind.bits]; omega
  have wb : (Lit.int .u64 (b : Int)).wf = true := by simp [Lit.wf, IntKind.min, IntKind.max, IntKind.signed, IntKind.bits]; omega
  have h1 : Tryd.prog.keyType 47 = true := by kernel_rfl
  have h2 : (Value.agg #[.int .u64 a, .int .u64 b]).formed Tryd.prog 47 = true := by kernel_rfl
  have h3 : Tryd.prog.cellsOf 47 = 2 := by kernel_rfl
  have h4 : Tryd.prog.cellsOf 23 = 1 := by kernel_rfl
  have h5 : Tryd.prog.types.size + 1 = 2 + (Tryd.prog.types.size - 1) := by kernel_rfl
  refine ⟨.string (keyBytes [.int .u64 a, .int .u64 b]), ?_⟩
  unfold keyOf
  rw [Tryd.underlying47]
  simp only [h1, h2, Bool.and_self, if_true]
  rw [h5, Nat.add_comm]
  unfold Program.keyLits
  rw [Tryd.underlying47]
  simp only [Value.cells, List.length_cons, List.length_nil, h3, if_true]
  unfold Program.keyLits
  simp [List.range_succ, h4, Tryd.underlying23, wa, wb]
def Num.least (a b c d : Nat) : Bool := decide (c < a ∨ a = c ∧ d ≤ b)
set_option maxHeartbeats 1000000 in
theorem least_any (a b c d : Nat) (ha : a < 18446744073709551616) (hb : b < 18446744073709551616) (hc : c < 18446744073709551616) (hd : d < 18446744073709551616) (w : World) :
    Calls Tryd.prog 38 #[.agg #[.int .u64 a, .int .u64 b], .agg #[.int .u64 c, .int .u64 d]] w fun e w' => e = .returned (.bool (Num.least a b c d)) ∧ Ext w w' := by
  have hg : Tryd.prog.eqGuardType Tryd.prog.depth 47 = false := wide_key.guard
  rcases Nat.lt_trichotomy a c with h | h | h
  · have e1 : ((a : Int) == (c : Int)) = false := by rw [beq_eq_false_iff_ne]; omega
    have e2 : ¬ (c : Int) < (a : Int) := by omega
    have heq : ∀ W, (binOp .eql 47 (.agg #[.int .u64 a, .int .u64 b]) (.agg #[.int .u64 c, .int .u64 d])).run Tryd.prog W = .ok (.bool false) W :=
      run_eql_key wide_key (wide_keyed a b ha hb) (wide_keyed c d hc hd) (by simp; try omega)
    have H : Hid (false = Num.least a b c d) := by
      show false = Num.least a b c d
      unfold Num.least
      simp
      try omega
    go_enter Tryd.func38, Tryd.ntmps38
    go_wp2
    go_ret
    exact ⟨by rw [← H.out]; rfl, ((Ext.refl _).alloc _).alloc _⟩
  · rcases Nat.lt_trichotomy b d with k | k | k
    · subst h
      have e2 : ¬ (d : Int) < (b : Int) := by omega
      revert hc
      intro hc
      have heq : ∀ W, (binOp .eql 47 (.agg #[.int .u64 a, .int .u64 b]) (.agg #[.int .u64 a, .int .u64 d])).run Tryd.prog W = .ok (.bool false) W :=
        run_eql_key wide_key (wide_keyed a b ha hb) (wide_keyed a d hc hd) (by simp; try omega)
      have H : Hid (false = Num.least a b a d) := by
        show false = Num.least a b a d
        unfold Num.least
        simp
        try omega
      go_enter Tryd.func38, Tryd.ntmps38
      go_wp2
      go_ret
      exact ⟨by rw [← H.out]; rfl, ((Ext.refl _).alloc _).alloc _⟩
    · subst h
      subst k
      have heq : ∀ W, (binOp .eql 47 (.agg #[.int .u64 a, .int .u64 b]) (.agg #[.int .u64 a, .int .u64 b])).run Tryd.prog W = .ok (.bool true) W :=
        run_eql_key wide_key (wide_keyed a b ha hb) (wide_keyed a b ha hb) (by simp)
      have H : Hid (true = Num.least a b a b) := by
        show true = Num.least a b a b
        unfold Num.least
        simp
      go_enter Tryd.func38, Tryd.ntmps38
      go_wp2
      go_ret
      exact ⟨by rw [← H.out]; rfl, ((Ext.refl _).alloc _).alloc _⟩
    · subst h
      have e2 : (d : Int) < (b : Int) := by omega
      have heq : ∀ W, (binOp .eql 47 (.agg #[.int .u64 a, .int .u64 b]) (.agg #[.int .u64 a, .int .u64 d])).run Tryd.prog W = .ok (.bool false) W :=
        run_eql_key wide_key (wide_keyed a b ha hb) (wide_keyed a d hc hd) (by simp; try omega)
      have H : Hid (true = Num.least a b a d) := by
        show true = Num.least a b a d
        unfold Num.least
        simp
        try omega
      go_enter Tryd.func38, Tryd.ntmps38
      go_wp2
      go_ret
      exact ⟨by rw [← H.out]; rfl, ((Ext.refl _).alloc _).alloc _⟩
  · have e2 : (c : Int) < (a : Int) := by omega
    have heq : ∀ W, (binOp .eql 47 (.agg #[.int .u64 a, .int .u64 b]) (.agg #[.int .u64 c, .int .u64 d])).run Tryd.prog W = .ok (.bool false) W :=
      run_eql_key wide_key (wide_keyed a b ha hb) (wide_keyed c d hc hd) (by simp; try omega)
    have H : Hid (true = Num.least a b c d) := by
      show true = Num.least a b c d
      unfold Num.least
      simp
      try omega
    go_enter Tryd.func38, Tryd.ntmps38
    go_wp2
    go_ret
    exact ⟨by rw [← H.out]; rfl, ((Ext.refl _).alloc _).alloc _⟩
theorem Num.least_mul (x y : Nat) : Num.least (Num.hi x) (Num.lo x) (Num.hi y) (Num.lo y) = decide (y ≤ x) := by
  unfold Num.least Num.hi Num.lo Num.M
  rw [decide_eq_decide]
  omega
theorem Num.least_lo (x y : Nat) (hy : y < 18446744073709551616) : Num.least (Num.hi x) (Num.lo x) 0 y = decide (y ≤ x) := by
  unfold Num.least Num.hi Num.lo Num.M
  rw [decide_eq_decide]
  omega
theorem most_any (a b : Nat) (ha : a < 18446744073709551616) (hb : b < 18446744073709551616) (w : World) :
    Calls Tryd.prog 31 #[.int .u64 a, .int .u64 b] w fun e w' => e = .returned (.bool (Num.most a b)) ∧ Ext w w' := by
  have t1 := fun W => times_any a 3 ha (by omega) W
  have t2 := fun W => times_any b 2 hb (by omega) W
  have l1 := fun W => least_any (Num.hi (a * 3)) (Num.lo (a * 3)) (Num.hi (b * 2)) (Num.lo (b * 2)) (Num.hi_lt ha (by simp [Num.M])) (Nat.mod_lt _ (by simp [Num.M])) (Num.hi_lt hb (by simp [Num.M])) (Nat.mod_lt _ (by simp [Num.M])) W
  have H : Hid (Num.least (Num.hi (a * 3)) (Num.lo (a * 3)) (Num.hi (b * 2)) (Num.lo (b * 2)) = Num.most a b) := by
    show Num.least _ _ _ _ = Num.most a b
    rw [Num.least_mul]
    unfold Num.most
    rw [decide_eq_decide]
    omega
  have T1 := Lib.hid t1; have T2 := Lib.hid t2; have L1 := Lib.hid l1
  clear t1 t2 l1
  go_enter Tryd.func31, Tryd.ntmps31
  go_wp2_with fail
  refine (T1.out _).mono ?_
  rintro e w1 ⟨rfl, hx1⟩
  go_wp2_with fail
  refine (T2.out _).mono ?_
  rintro e w2 ⟨rfl, hx2⟩
  go_wp2_with fail
  refine (L1.out _).mono ?_
  rintro e w3 ⟨rfl, hx3⟩
  go_wp2_with fail
  go_ret
  exact ⟨by rw [← H.out]; rfl, (hx1.trans hx2).trans hx3⟩
theorem some_any (a b : Nat) (ha : a < 18446744073709551616) (hb : b < 18446744073709551616) (w : World) :
    Calls Tryd.prog 32 #[.int .u64 a, .int .u64 b] w fun e w' => e = .returned (.bool (Num.some a b)) ∧ Ext w w' := by
  have t1 := fun W => times_any a 3 ha (by omega) W
  have l1 := fun W => least_any (Num.hi (a * 3)) (Num.lo (a * 3)) 0 b (Num.hi_lt ha (by simp [Num.M])) (Nat.mod_lt _ (by simp [Num.M])) (by omega) hb W
  have H : Hid (Num.least (Num.hi (a * 3)) (Num.lo (a * 3)) 0 b = Num.some a b) := by
    show Num.least _ _ _ _ = Num.some a b
    rw [Num.least_lo _ _ hb]
    unfold Num.some
    rw [decide_eq_decide]
    omega
  have T1 := Lib.hid t1; have L1 := Lib.hid l1
  clear t1 l1
  go_enter Tryd.func32, Tryd.ntmps32
  go_wp2_with fail
  refine (T1.out _).mono ?_
  rintro e w1 ⟨rfl, hx1⟩
  go_wp2_with fail
  refine (L1.out _).mono ?_
  rintro e w2 ⟨rfl, hx2⟩
  go_wp2_with fail
  go_ret
  exact ⟨by rw [← H.out]; rfl, hx1.trans hx2⟩
end Go.Proofs.YtchfaiogiamfbaaDoor
