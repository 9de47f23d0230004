/- Layer 7 (skip), in plain terms: ancestors by their distance, leaps, depths, and what climbing by leaps finds. -/
import Derived.Test.YtoifhpcpahfddaaTreeUp
namespace Go.Proofs.Ytoifhpcpahfddaa
set_option linter.unusedVariables false
set_option linter.unusedSimpArgs false
namespace Skip
open Tree
def anc (T : List Node) (i n : Nat) : Int := optI ((line T i)[n]?)
def leap (T : List Node) (i k : Nat) : Int := anc T i (2 ^ k)
def deepN (T : List Node) (i : Nat) : Nat := (line T i).length - 1
theorem line_drop {T : List Node} : ∀ {i n a : Nat}, (line T i)[n]? = some a → line T a = (line T i).drop n := by
  intro i
  induction i using Nat.strongRecOn with
  | ind i ih =>
    intro n a h
    cases n with
    | zero =>
      obtain rfl : i = a := by rw [line_eq] at h; simpa using h
      rfl
    | succ n =>
      rw [line_eq] at h ⊢
      by_cases h0 : i = 0
      · rw [if_pos h0] at h; simp at h
      · rw [if_neg h0] at h
        have h' : (line T (up T i))[n]? = some a := by simpa using h
        have := ih _ (up_lt T h0) h'
        rw [line_pos T h0, List.drop_succ_cons]
        rwa [line_eq T a] at this
theorem line_get_le {T : List Node} {i n a : Nat} (h : (line T i)[n]? = some a) : a ≤ i := mem_le (List.mem_of_getElem? h)
theorem line_get_lt {T : List Node} {i n a : Nat} (h : (line T i)[n]? = some a) (hn : 0 < n) : a < i := by
  obtain ⟨h1, e1⟩ := List.getElem?_eq_some_iff.1 h
  have h2 : (line T i)[0]? = some i := by rw [line_eq]; rfl
  obtain ⟨h3, e3⟩ := List.getElem?_eq_some_iff.1 h2
  have := List.pairwise_iff_getElem.1 (line_desc T i) 0 n h3 h1 hn
  rwa [e1, e3] at this
theorem line_len (T : List Node) (i : Nat) : (line T i).length ≤ i + 1 := by
  induction i using Nat.strongRecOn with
  | ind i ih =>
    by_cases h0 : i = 0
    · subst h0; rw [line_zero]; simp
    · rw [line_pos T h0, List.length_cons]
      have := ih _ (up_lt T h0)
      have := up_lt T h0
      omega
theorem line_one (T : List Node) (i : Nat) : 1 ≤ (line T i).length := by rw [line_eq]; simp
theorem deep_le (T : List Node) (i : Nat) : deepN T i ≤ i := by have := line_len T i; unfold deepN; omega
theorem deep_len (T : List Node) (i : Nat) : (line T i).length = deepN T i + 1 := by have := line_one T i; unfold deepN; omega
theorem deep_zero (T : List Node) : deepN T 0 = 0 := rfl
theorem deep_pos {T : List Node} {i : Nat} (h : i ≠ 0) : deepN T i = deepN T (up T i) + 1 := by
  unfold deepN
  rw [line_pos T h, List.length_cons]
  have := line_one T (up T i)
  omega
/-- An ancestor is there, as far as the place is deep. -/
theorem anc_cases (T : List Node) (i n : Nat) : (anc T i n = -1 ∧ deepN T i < n ∧ (line T i)[n]? = none) ∨ ∃ a : Nat, anc T i n = a ∧ n ≤ deepN T i ∧ (line T i)[n]? = some a ∧ a ≤ i ∧ (0 < n → a < i) ∧ deepN T a = deepN T i - n := by
  have hl := deep_len T i
  cases h : (line T i)[n]? with
  | none =>
    left
    have := List.getElem?_eq_none_iff.1 h
    exact ⟨by unfold anc; rw [h]; rfl, by omega, rfl⟩
  | some a =>
    right
    obtain ⟨h1, _⟩ := List.getElem?_eq_some_iff.1 h
    refine ⟨a, by unfold anc; rw [h]; rfl, by omega, rfl, line_get_le h, line_get_lt h, ?_⟩
    unfold deepN
    rw [line_drop h, List.length_drop]
    omega
theorem anc_zero (T : List Node) (i : Nat) : anc T i 0 = i := by unfold anc; rw [line_eq]; rfl
theorem anc_add {T : List Node} {i n a : Nat} (h : (line T i)[n]? = some a) (m : Nat) : anc T i (n + m) = anc T a m := by
  unfold anc
  rw [line_drop h, List.getElem?_drop]
theorem anc_none {T : List Node} {i n m : Nat} (h : anc T i n = -1) (hm : n ≤ m) : anc T i m = -1 := by
  rcases anc_cases T i n with ⟨_, h1, _⟩ | ⟨a, ha, _⟩
  · rcases anc_cases T i m with ⟨h2, _⟩ | ⟨b, hb, h3, _⟩
    · exact h2
    · omega
  · omega
theorem leap_next (T : List Node) (i k : Nat) : leap T i (k + 1) = if leap T i k = -1 then -1 else leap T (leap T i k).toNat k := by
  unfold leap
  rcases anc_cases T i (2 ^ k) with ⟨h, _⟩ | ⟨a, ha, _, hg, _⟩
  · rw [if_pos h]
    exact anc_none h (Nat.pow_le_pow_right (by omega) (by omega))
  · rw [if_neg (by omega), ha, Int.toNat_natCast, Nat.pow_succ, Nat.mul_two]
    exact anc_add hg _
theorem leap_zero {T : List Node} (hm : mayV T = true) {i : Nat} (hi : i < T.length) : leap T i 0 = (nd T i).par := by
  unfold leap anc
  by_cases h0 : i = 0
  · subst h0
    rw [par_zero hm, line_zero]
    rfl
  · obtain ⟨_, _, hp⟩ := par_pos hm hi h0
    rw [hp, line_pos T h0, line_eq T (up T i)]
    rfl
theorem leap_cases (T : List Node) (i k : Nat) : (leap T i k = -1 ∧ deepN T i < 2 ^ k ∧ (line T i)[2 ^ k]? = none) ∨ ∃ a : Nat, leap T i k = a ∧ 2 ^ k ≤ deepN T i ∧ (line T i)[2 ^ k]? = some a ∧ a < i ∧ deepN T a = deepN T i - 2 ^ k := by
  rcases anc_cases T i (2 ^ k) with ⟨h, h1, h2⟩ | ⟨a, ha, h1, hg, _, hlt, hd⟩
  · exact .inl ⟨h, h1, h2⟩
  · exact .inr ⟨a, ha, h1, hg, hlt (Nat.two_pow_pos k), hd⟩
def rowI (T : List Node) (i : Nat) : List Int := [leap T i 0, leap T i 1, leap T i 2, leap T i 3]
/-- What climbs by leaps: the first place of the line that serves. -/
def climbV (T : List Node) (p : Nat → Bool) (i : Nat) : Int := optI ((line T i).find? p)
def Rises (T : List Node) (p : Nat → Bool) : Prop := ∀ a b : Nat, b < T.length → a ∈ line T b → p b = true → p a = true
theorem climb_here {T : List Node} {p : Nat → Bool} {i : Nat} (h : p i = true) : climbV T p i = i := by
  unfold climbV
  rw [line_eq, List.find?_cons, h]
  rfl
theorem climb_leap {T : List Node} {p : Nat → Bool} {i n a : Nat} (hp : Rises T p) (hi : i < T.length) (hg : (line T i)[n]? = some a) (h : p a = false) : climbV T p i = climbV T p a := by
  unfold climbV
  rw [line_drop hg]
  have h2 := List.take_append_drop n (line T i)
  have : (line T i).find? p = ((line T i).take n ++ (line T i).drop n).find? p := by rw [h2]
  rw [this, List.find?_append]
  have hn : ((line T i).take n).find? p = none := by
    rw [List.find?_eq_none]
    intro b hb hpb
    obtain ⟨j, hj⟩ := List.mem_iff_getElem?.1 hb
    have hjn : j < n := by
      rcases Nat.lt_or_ge j n with h | h
      · exact h
      · rw [List.getElem?_take, if_neg (by omega)] at hj; cases hj
    rw [List.getElem?_take_of_lt hjn] at hj
    have hab : a ∈ line T b := by
      rw [line_drop hj]
      refine List.mem_of_getElem? (i := n - j) ?_
      rw [List.getElem?_drop, show j + (n - j) = n by omega]
      exact hg
    have := hp a b (Nat.lt_of_le_of_lt (line_get_le hj) hi) hab hpb
    rw [h] at this; cases this
  rw [hn]; rfl
/-- How far the first place of the line that serves lies above, or the line's end. -/
def far (T : List Node) (p : Nat → Bool) (i : Nat) : Nat := (line T i).findIdx p
theorem far_le (T : List Node) (p : Nat → Bool) (i : Nat) : far T p i ≤ i + 1 := Nat.le_trans List.findIdx_le_length (line_len T i)
theorem far_none {T : List Node} (p : Nat → Bool) {i n : Nat} (h : (line T i)[n]? = none) : far T p i ≤ n := Nat.le_trans List.findIdx_le_length (List.getElem?_eq_none_iff.1 h)
theorem far_yes {T : List Node} {p : Nat → Bool} {i n a : Nat} (hg : (line T i)[n]? = some a) (h : p a = true) : far T p i ≤ n := by
  unfold far
  obtain ⟨h1, e1⟩ := List.getElem?_eq_some_iff.1 hg
  rcases Nat.lt_or_ge n ((line T i).findIdx p) with hc | hc
  · have := List.not_of_lt_findIdx hc
    rw [e1, h] at this
    cases this
  · exact hc
theorem far_no {T : List Node} {p : Nat → Bool} {i n a : Nat} (hp : Rises T p) (hi : i < T.length) (hg : (line T i)[n]? = some a) (h : p a = false) : far T p a + n = far T p i := by
  unfold far
  rw [line_drop hg]
  have h2 := List.take_append_drop n (line T i)
  have hlen : ((line T i).take n).length = n := by
    obtain ⟨h1, _⟩ := List.getElem?_eq_some_iff.1 hg
    rw [List.length_take]; omega
  have hn : ((line T i).take n).findIdx p = n := by
    rw [← hlen]
    conv => lhs; rw [hlen]
    rw [List.findIdx_eq_length]
    intro b hb
    obtain ⟨j, hj⟩ := List.mem_iff_getElem?.1 hb
    have hjn : j < n := by
      rcases Nat.lt_or_ge j n with h | h
      · exact h
      · rw [List.getElem?_take, if_neg (by omega)] at hj; cases hj
    rw [List.getElem?_take_of_lt hjn] at hj
    have hab : a ∈ line T b := by
      rw [line_drop hj]
      refine List.mem_of_getElem? (i := n - j) ?_
      rw [List.getElem?_drop, show j + (n - j) = n by omega]
      exact hg
    cases hpb : p b with
    | false => rfl
    | true => have := hp a b (Nat.lt_of_le_of_lt (line_get_le hj) hi) hab hpb; rw [h] at this; cases this
  have h3 : (line T i).findIdx p = ((line T i).take n ++ (line T i).drop n).findIdx p := by rw [h2]
  rw [h3, List.findIdx_append, hn, hlen, if_neg (by omega)]
theorem climb_end {T : List Node} {p : Nat → Bool} {i : Nat} (h : p i = false) (hf : far T p i ≤ 1) : climbV T p i = leap T i 0 := by
  unfold climbV leap anc far at *
  rw [line_eq] at hf ⊢
  rw [List.find?_cons, h]
  generalize (if i = 0 then [] else line T (up T i)) = L at *
  rw [List.findIdx_cons, h] at hf
  cases L with
  | nil => rfl
  | cons y L =>
    have : p y = true := by
      cases hy : p y with
      | true => rfl
      | false => simp [List.findIdx_cons, hy] at hf
    simp [List.find?_cons, this]
end Skip
end Go.Proofs.Ytoifhpcpahfddaa
