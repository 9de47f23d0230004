/- Layer 11: the plain laws of bits and sums; what all statements begin with; what the listed table gives. -/
import Derived.Test.YtjhhfininnlkfaaDoorStakeB
import Derived.Test.YtjhhfininnlkfaaDoorCards
import Derived.Test.YtjhhfininnlkfaaDoorTie
import Derived.Deep.DeepHandedRow
import Derived.Lib.LaidTab
namespace Go.Proofs.YtjhhfininnlkfaaDoor
open Go.RowKit Go.WideShapes Go.ChangeShapes Go.ChangeAt
set_option linter.unusedVariables false
set_option linter.unusedSimpArgs false


namespace Stake
def sumB (f : Nat → Nat) (m n : Nat) : Nat := ((List.range n).map (fun v => if m.testBit v then f v else 0)).sum
theorem sumB_succ (f : Nat → Nat) (m n : Nat) : sumB f m (n + 1) = sumB f m n + if m.testBit n then f n else 0 := by
  unfold sumB
  rw [List.range_succ]
  simp
theorem sum_filter (p : Nat → Bool) (f : Nat → Nat) : ∀ L : List Nat, ((L.filter p).map f).sum = (L.map (fun v => if p v then f v else 0)).sum := by
  intro L
  induction L with
  | nil => rfl
  | cons a L ih =>
    rw [List.filter_cons]
    cases h : p a <;> simp [h, ih]
theorem sumB_bits (f : Nat → Nat) (m : Nat) : ((bitsL m).map f).sum = sumB f m 64 := sum_filter _ f _
theorem sumB_low (f : Nat → Nat) (m n : Nat) : ∀ k, sumB f (m &&& (2 ^ n - 1)) (n + k) = sumB f m n := by
  intro k
  induction k with
  | zero =>
    unfold sumB
    congr 1
    apply List.map_congr_left
    intro v hv
    have := List.mem_range.1 hv
    rw [Nat.testBit_and, Nat.testBit_two_pow_sub_one]
    simp [show v < n by omega]
  | succ k ih =>
    rw [← Nat.add_assoc, sumB_succ, ih, Nat.testBit_and, Nat.testBit_two_pow_sub_one]
    simp
    intro _ h
    omega
def fOf (l : List Int) (v : Nat) : Nat := (nth l v).toNat
theorem ofV_eq {l : List Int} (h : mayV l = true) (m : Nat) : ofV l m = sumB (fOf l) m l.length := by
  have h8 := (mayV_iff.1 h).2.1
  unfold ofV
  rw [h, if_pos rfl]
  show ((bitsL (m &&& (2 ^ l.length - 1))).map (fOf l)).sum = _
  rw [sumB_bits]
  have := sumB_low (fOf l) m l.length (64 - l.length)
  rw [show l.length + (64 - l.length) = 64 by omega] at this
  exact this
theorem ofV_no {l : List Int} (h : mayV l = false) (m : Nat) : ofV l m = 0 := by unfold ofV; rw [h]; rfl
/-- Two sums, bit by bit, are two others. -/
theorem sumB_four (f : Nat → Nat) (a b c d n : Nat) (h : ∀ v, v < n → (if a.testBit v then 1 else 0) + (if b.testBit v then 1 else 0) = ((if c.testBit v then 1 else 0) + (if d.testBit v then 1 else 0) : Nat)) : sumB f a n + sumB f b n = sumB f c n + sumB f d n := by
  induction n with
  | zero => simp [sumB]
  | succ n ih =>
    have ih' := ih (fun v hv => h v (by omega))
    have hn := h n (by omega)
    rw [sumB_succ, sumB_succ, sumB_succ, sumB_succ]
    generalize a.testBit n = x1 at hn ⊢
    generalize b.testBit n = x2 at hn ⊢
    generalize c.testBit n = x3 at hn ⊢
    generalize d.testBit n = x4 at hn ⊢
    cases x1 <;> cases x2 <;> cases x3 <;> cases x4 <;> simp at hn ⊢ <;> omega
theorem sumB_le (f : Nat → Nat) (a b n : Nat) (h : ∀ v, v < n → a.testBit v = true → b.testBit v = true) : sumB f a n ≤ sumB f b n := by
  induction n with
  | zero => simp [sumB]
  | succ n ih =>
    have ih' := ih (fun v hv => h v (by omega))
    have hn := h n (by omega)
    rw [sumB_succ, sumB_succ]
    cases ha : a.testBit n with
    | false => simp; omega
    | true => rw [hn ha]; simp; omega
theorem sumB_zero (f : Nat → Nat) (n : Nat) : sumB f 0 n = 0 := by
  induction n with
  | zero => rfl
  | succ n ih => rw [sumB_succ, ih]; simp
theorem all_bit {v : Nat} (h : v < 64) : (18446744073709551615 : Nat).testBit v = true := by
  rw [show (18446744073709551615 : Nat) = 2 ^ 64 - 1 by decide, Nat.testBit_two_pow_sub_one]; simp [h]
theorem rest_bit {m v : Nat} (hm : m < 18446744073709551616) (h : v < 64) : (18446744073709551615 - m).testBit v = !m.testBit v := by
  have := Nat.testBit_two_pow_sub_succ (show m < 2 ^ 64 by simpa using hm) v
  rw [show 2 ^ 64 - (m + 1) = 18446744073709551615 - m by omega] at this
  rw [this]; simp [h]
abbrev allM : Nat := 18446744073709551615
theorem ofV_parts (l : List Int) {a : Nat} (ha : a < 18446744073709551616) : ofV l a + ofV l (18446744073709551615 - a) = ofV l 18446744073709551615 := by
  cases h : mayV l with
  | false => simp [ofV_no h]
  | true =>
    have h8 := (mayV_iff.1 h).2.1
    rw [ofV_eq h, ofV_eq h, ofV_eq h]
    have := sumB_four (fOf l) a (18446744073709551615 - a) 18446744073709551615 0 l.length (fun v hv => by rw [rest_bit ha (by omega), all_bit (by omega)]; cases a.testBit v <;> simp)
    rw [sumB_zero] at this
    exact this
theorem ofV_both (l : List Int) (a b : Nat) : ofV l (a &&& b) + ofV l (a ||| b) = ofV l a + ofV l b := by
  cases h : mayV l with
  | false => simp [ofV_no h]
  | true =>
    rw [ofV_eq h, ofV_eq h, ofV_eq h, ofV_eq h]
    exact sumB_four _ _ _ _ _ _ (fun v hv => by rw [Nat.testBit_and, Nat.testBit_or]; cases a.testBit v <;> cases b.testBit v <;> simp)
theorem ofV_or (l : List Int) (a b : Nat) : ofV l a ≤ ofV l (a ||| b) := by
  cases h : mayV l with
  | false => simp [ofV_no h]
  | true =>
    rw [ofV_eq h, ofV_eq h]
    exact sumB_le _ _ _ _ (fun v hv e => by rw [Nat.testBit_or, e]; rfl)
theorem ofV_all (l : List Int) (a : Nat) : ofV l a ≤ ofV l 18446744073709551615 := by
  cases h : mayV l with
  | false => simp [ofV_no h]
  | true =>
    have h8 := (mayV_iff.1 h).2.1
    rw [ofV_eq h, ofV_eq h]
    exact sumB_le _ _ _ _ (fun v hv e => all_bit (by omega))
theorem ofV_none (l : List Int) : ofV l 0 = 0 := by
  cases h : mayV l with
  | false => simp [ofV_no h]
  | true => rw [ofV_eq h, sumB_zero]
theorem common (l : List Int) (a b : Nat) (ha : mostV l a = true) (hb : mostV l b = true) : someV l (a &&& b) = true := by
  unfold mostV someV Num.most Num.some at *
  simp only [Bool.and_eq_true, decide_eq_true_eq] at *
  have := ofV_both l a b
  have := ofV_all l (a ||| b)
  exact ⟨ha.1, by omega⟩
theorem more (l : List Int) (a b : Nat) (ha : mostV l a = true) : mostV l (a ||| b) = true := by
  unfold mostV Num.most at *
  simp only [Bool.and_eq_true, decide_eq_true_eq] at *
  have := ofV_or l a b
  exact ⟨ha.1, by omega⟩
theorem most_some (l : List Int) (a : Nat) (ha : mostV l a = true) : someV l a = true := by
  unfold mostV someV Num.most Num.some at *
  simp only [Bool.and_eq_true, decide_eq_true_eq] at *
  exact ⟨ha.1, by omega⟩
end Stake

theorem total_is (A : Option Addr) (n c : Nat) (l : List Int) (b : Nat) (e : Stake.ofV l 18446744073709551615 = b) (w : World) (h : Ints w .u64 A n c l) (hT : Tab w) :
    Calls Tryd.prog 9 #[.slice A n c] w fun e w' => e = .returned (.int .u64 (b : Nat)) ∧ Ext w w' := e ▸ total_any A n c l w h hT
/-! What the listed table gives. -/
theorem gTab : Tryd.prog.globalNamed "math/bits.deBruijn64tab" = some 0 := by kernel_rfl
theorem gTabType : (Tryd.prog.globals[0]?).map (·.type) = some 84 := by kernel_rfl
theorem cellsTab : Tryd.prog.cellsOf 84 = 64 := by kernel_rfl
theorem cellsU8 : Tryd.prog.cellsOf 5 = 1 := by kernel_rfl
theorem table {W : World} (h : laidMetH Tryd.prog [("math/bits.deBruijn64tab", Rows.laid_math_bits_deBruijn64tab)] W) : Tab W := by
  have hx : Lib.TabIs Tryd.prog W "math/bits.deBruijn64tab" .u8 (Lib.deBruijn64tab.map (fun k : Nat => (k : Int))) := Lib.tabIs_of_head (rest := []) gTab gTabType Tryd.underlying84 Tryd.underlying5 cellsU8 cellsTab h
  intro j hj
  have hl : (Lib.deBruijn64tab.map (fun k : Nat => (k : Int))).length = 64 := rfl
  have hc := hx.cell gTab j (by rw [hl]; exact hj)
  rw [hc]
  have hj' : j < Lib.deBruijn64tab.length := hj
  simp [hj']
/-- A world for the witness: the settled one, the table holding what its initialiser lays. -/
noncomputable def laidWorld (os : Os) : World :=
  { World.holding Tryd.prog os ⟨#[], #[], []⟩ with heap := (World.holding Tryd.prog os ⟨#[], #[], []⟩).heap.modify 0 fun
      | .cells _ t frozen => .cells ((Lib.deBruijn64tab.map (fun k : Nat => Value.int .u8 (k : Int))).toArray) t frozen
      | o => o }
end Go.Proofs.YtjhhfininnlkfaaDoor
