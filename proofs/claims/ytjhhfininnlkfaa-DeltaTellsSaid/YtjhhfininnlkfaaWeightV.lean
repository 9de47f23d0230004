/- What a tree's nodes weigh, in plain lists. -/
import Derived.Test.YtjhhfininnlkfaaTreeV
import Derived.Test.YtjhhfininnlkfaaInts
namespace Go.Proofs.Ytjhhfininnlkfaa
set_option linter.unusedSectionVars false
set_option linter.unusedVariables false
set_option linter.unusedSimpArgs false
namespace Weight
open Tree
/-- The number at a place, as a natural one. -/
def at' (l : List Int) (k : Nat) : Nat := (nth l k).toNat
/-- The sum over the places below n. -/
def sum (n : Nat) (f : Nat → Nat) : Nat := ((List.range n).map f).sum
theorem sum_succ (n : Nat) (f : Nat → Nat) : sum (n + 1) f = sum n f + f n := by unfold sum; rw [List.range_succ, List.map_append, List.sum_append]; simp
theorem sum_add (n : Nat) (f g : Nat → Nat) : sum n (fun k => f k + g k) = sum n f + sum n g := by
  induction n with
  | zero => rfl
  | succ n ih => rw [sum_succ, sum_succ, sum_succ, ih]; omega
theorem sum_congr {n : Nat} {f g : Nat → Nat} (h : ∀ k, k < n → f k = g k) : sum n f = sum n g := by
  induction n with
  | zero => rfl
  | succ n ih => rw [sum_succ, sum_succ, ih (fun k hk => h k (by omega)), h n (by omega)]
theorem sum_zero {n : Nat} {f : Nat → Nat} (h : ∀ k, k < n → f k = 0) : sum n f = 0 := by
  induction n with
  | zero => rfl
  | succ n ih => rw [sum_succ, ih (fun k hk => h k (by omega)), h n (by omega)]
theorem sum_le {n : Nat} {f g : Nat → Nat} (h : ∀ k, k < n → f k ≤ g k) : sum n f ≤ sum n g := by
  induction n with
  | zero => exact Nat.le_refl _
  | succ n ih => rw [sum_succ, sum_succ]; have := ih (fun k hk => h k (by omega)); have := h n (by omega); omega
theorem sum_swap (n m : Nat) (f : Nat → Nat → Nat) : sum n (fun k => sum m (fun c => f k c)) = sum m (fun c => sum n (fun k => f k c)) := by
  induction n with
  | zero =>
    exact (sum_zero (fun c _ => rfl)).symm
  | succ n ih =>
    rw [sum_succ, ih, ← sum_add]
    exact sum_congr (fun c _ => (sum_succ n (fun k => f k c)).symm)
theorem sum_one {n i : Nat} (hi : i < n) (v : Nat) : sum n (fun k => if k = i then v else 0) = v := by
  induction n with
  | zero => omega
  | succ n ih =>
    rw [sum_succ]
    by_cases e : i = n
    · subst e
      rw [sum_zero (fun k hk => by rw [if_neg (by omega)]), if_pos rfl]; omega
    · rw [ih (by omega), if_neg (by omega)]; omega
theorem sum_ite (n : Nat) (p : Nat → Prop) [DecidablePred p] (f : Nat → Nat) : sum n (fun k => if p k then f k else 0) ≤ sum n f := sum_le (fun k _ => by split <;> omega)
/-- What a place weighs: its own, and that of all below it. -/
def S (T : List Node) (o : Nat → Nat) (i : Nat) : Nat := sum T.length (fun k => if i ∈ line T k then o k else 0)
def total (T : List Node) (o : Nat → Nat) : Nat := sum T.length o
theorem S_le (T : List Node) (o : Nat → Nat) (i : Nat) : S T o i ≤ total T o := sum_ite _ _ _
theorem S_zero (T : List Node) (o : Nat → Nat) : S T o 0 = total T o := sum_congr (fun k _ => by rw [if_pos (zero_mem T k)])
theorem S_add (T : List Node) (o p : Nat → Nat) (i : Nat) : S T (fun k => o k + p k) i = S T o i + S T p i := by
  unfold S
  rw [← sum_add]
  exact sum_congr (fun k _ => by
    show (if i ∈ line T k then o k + p k else 0) = _
    split <;> omega)
/-- Just one child of a place is above a place behind it. -/
theorem one_child (T : List Node) (i : Nat) : ∀ (m k : Nat), k < m → sum m (fun c => if c ≠ 0 ∧ up T c = i ∧ c ∈ line T k then 1 else 0) = if i ∈ line T k ∧ k ≠ i then 1 else 0 := by
  intro m k
  induction k using Nat.strongRecOn with
  | ind k ih =>
    intro hk
    by_cases h0 : k = 0
    · subst h0
      rw [sum_zero (fun c _ => by rw [if_neg]; rintro ⟨h1, _, h3⟩; rw [line_zero] at h3; simp at h3; exact h1 h3)]
      rw [if_neg]
      rintro ⟨h1, h2⟩
      rw [line_zero] at h1
      simp at h1
      exact h2 h1.symm
    · have hu := up_lt T h0
      have e : sum m (fun c => if c ≠ 0 ∧ up T c = i ∧ c ∈ line T k then 1 else 0) = sum m (fun c => (if c = k then (if up T k = i then 1 else 0) else 0) + (if c ≠ 0 ∧ up T c = i ∧ c ∈ line T (up T k) then 1 else 0)) := by
        refine sum_congr (fun c _ => ?_)
        by_cases hc : c = k
        · subst hc
          have hn : c ∉ line T (up T c) := fun h => by have := mem_le h; omega
          rw [if_pos (rfl : c = c)]
          by_cases hi : up T c = i
          · rw [if_pos ⟨h0, hi, mem_self T c⟩, if_pos hi, if_neg (fun h => hn h.2.2)]
          · rw [if_neg (fun h => hi h.2.1), if_neg hi, if_neg (fun h => hi h.2.1)]
        · rw [if_neg hc, Nat.zero_add]
          have : c ∈ line T k ↔ c ∈ line T (up T k) := by rw [mem_pos h0]; simp [hc]
          simp only [this]
      rw [e, sum_add, sum_one hk, ih _ hu (by omega)]
      by_cases hi : up T k = i
      · subst hi
        rw [if_pos rfl, if_neg (fun h => h.2 rfl), if_pos ⟨(mem_pos h0).2 (.inr (mem_self T _)), by omega⟩]
      · rw [if_neg hi, Nat.zero_add]
        have : (i ∈ line T (up T k) ∧ up T k ≠ i) ↔ (i ∈ line T k ∧ k ≠ i) := by
          rw [mem_pos h0]
          constructor
          · rintro ⟨h1, _⟩
            exact ⟨.inr h1, fun e => by have := mem_le h1; omega⟩
          · rintro ⟨h1 | h1, h2⟩
            · exact absurd h1.symm h2
            · exact ⟨h1, hi⟩
        simp only [this]
/-- A place weighs its own, and what its children weigh. -/
theorem S_kids (T : List Node) (o : Nat → Nat) {i : Nat} (hi : i < T.length) : S T o i = o i + sum T.length (fun c => if c ≠ 0 ∧ up T c = i then S T o c else 0) := by
  have e1 : sum T.length (fun c => if c ≠ 0 ∧ up T c = i then S T o c else 0) = sum T.length (fun c => sum T.length (fun k => if c ≠ 0 ∧ up T c = i ∧ c ∈ line T k then o k else 0)) := by
    refine sum_congr (fun c _ => ?_)
    by_cases h : c ≠ 0 ∧ up T c = i
    · rw [if_pos h]
      exact sum_congr (fun k _ => by simp [h.1, h.2])
    · rw [if_neg h, sum_zero (fun k _ => by rw [if_neg (fun g => h ⟨g.1, g.2.1⟩)])]
  have e2 : sum T.length (fun k => sum T.length (fun c => if c ≠ 0 ∧ up T c = i ∧ c ∈ line T k then o k else 0)) = sum T.length (fun k => if i ∈ line T k ∧ k ≠ i then o k else 0) := by
    refine sum_congr (fun k hk => ?_)
    have := one_child T i T.length k hk
    by_cases h : i ∈ line T k ∧ k ≠ i
    · rw [if_pos h] at this ⊢
      have e : sum T.length (fun c => if c ≠ 0 ∧ up T c = i ∧ c ∈ line T k then o k else 0) = o k * sum T.length (fun c => if c ≠ 0 ∧ up T c = i ∧ c ∈ line T k then 1 else 0) := by
        generalize T.length = m
        induction m with
        | zero => rfl
        | succ m ih => rw [sum_succ, sum_succ, Nat.mul_add, ih]; congr 1; split <;> simp
      rw [e, this, Nat.mul_one]
    · rw [if_neg h] at this ⊢
      refine sum_zero (fun c hc => ?_)
      rw [if_neg]
      intro g
      have hle : (if c ≠ 0 ∧ up T c = i ∧ c ∈ line T k then 1 else 0) ≤ sum T.length (fun c => if c ≠ 0 ∧ up T c = i ∧ c ∈ line T k then 1 else 0) := by
        have h1 := sum_one hc (if c ≠ 0 ∧ up T c = i ∧ c ∈ line T k then 1 else 0)
        rw [← h1]
        exact sum_le (fun j _ => by by_cases e : j = c <;> simp [e])
      rw [this, if_pos g] at hle
      omega
  rw [e1, sum_swap, e2]
  unfold S
  have e3 : sum T.length (fun k => if i ∈ line T k then o k else 0) = sum T.length (fun k => (if k = i then o i else 0) + (if i ∈ line T k ∧ k ≠ i then o k else 0)) := by
    refine sum_congr (fun k _ => ?_)
    by_cases e : k = i
    · subst e; simp [mem_self]
    · simp [e]
  rw [e3, sum_add, sum_one hi]
/-- What has come together, where the places from j on have handed on theirs. -/
def W (T : List Node) (o : Nat → Nat) (j x : Nat) : Nat := o x + sum T.length (fun c => if (j ≤ c ∧ c ≠ 0) ∧ up T c = x then S T o c else 0)
theorem W_start (T : List Node) (o : Nat → Nat) (x : Nat) : W T o T.length x = o x := by
  unfold W
  rw [sum_zero (fun c hc => by rw [if_neg]; omega)]
  rfl
theorem W_full (T : List Node) (o : Nat → Nat) {j x : Nat} (hx : x < T.length) (hj : j ≤ x + 1) : W T o j x = S T o x := by
  rw [S_kids T o hx]
  unfold W
  congr 1
  refine sum_congr (fun c _ => ?_)
  by_cases h : c ≠ 0 ∧ up T c = x
  · have := up_lt T h.1
    rw [if_pos ⟨⟨by omega, h.1⟩, h.2⟩, if_pos h]
  · rw [if_neg (fun g => h ⟨g.1.2, g.2⟩), if_neg h]
theorem W_le (T : List Node) (o : Nat → Nat) (j : Nat) {x : Nat} (hx : x < T.length) : W T o j x ≤ total T o := by
  refine Nat.le_trans ?_ (S_le T o x)
  rw [S_kids T o hx]
  unfold W
  refine Nat.add_le_add_left (sum_le (fun c _ => ?_)) _
  by_cases h : c ≠ 0 ∧ up T c = x
  · rw [if_pos h]; split <;> omega
  · rw [if_neg (fun g => h ⟨g.1.2, g.2⟩), if_neg h]; exact Nat.le_refl _
/-- One more place hands its own on. -/
theorem W_step (T : List Node) (o : Nat → Nat) {j : Nat} (hj : j < T.length) (h0 : j ≠ 0) (x : Nat) : W T o j x = W T o (j + 1) x + (if x = up T j then S T o j else 0) := by
  unfold W
  rw [Nat.add_assoc]
  congr 1
  have e : sum T.length (fun c => if (j ≤ c ∧ c ≠ 0) ∧ up T c = x then S T o c else 0) = sum T.length (fun c => (if (j + 1 ≤ c ∧ c ≠ 0) ∧ up T c = x then S T o c else 0) + (if c = j then (if x = up T j then S T o j else 0) else 0)) := by
    refine sum_congr (fun c _ => ?_)
    by_cases hc : c = j
    · subst hc
      rw [if_neg (show ¬ ((c + 1 ≤ c ∧ c ≠ 0) ∧ up T c = x) by omega)]
      simp only [if_true, Nat.zero_add]
      by_cases hx : x = up T c
      · rw [if_pos ⟨⟨Nat.le_refl _, h0⟩, hx.symm⟩, if_pos hx]
      · rw [if_neg (fun g => hx g.2.symm), if_neg hx]
    · rw [if_neg hc, Nat.add_zero]
      have : (j ≤ c ∧ c ≠ 0) ↔ (j + 1 ≤ c ∧ c ≠ 0) := by omega
      simp only [this]
  rw [e, sum_add, sum_one hj]
theorem W_zero (T : List Node) (o : Nat → Nat) (x : Nat) : W T o 0 x = W T o 1 x := by
  unfold W
  congr 1
  exact sum_congr (fun c _ => by
    have : (0 ≤ c ∧ c ≠ 0) ↔ (1 ≤ c ∧ c ≠ 0) := by omega
    simp only [this])
/-- The numbers, one behind the other. -/
def listOf (n : Nat) (f : Nat → Nat) : List Int := (List.range n).map (fun k => ((f k : Nat) : Int))
theorem listOf_len (n : Nat) (f : Nat → Nat) : (listOf n f).length = n := by unfold listOf; simp
theorem nth_listOf {n : Nat} {f : Nat → Nat} {k : Nat} (h : k < n) : nth (listOf n f) k = (f k : Nat) := by
  rw [nth_eq (by rw [listOf_len]; exact h)]
  unfold listOf
  simp
/-- The sums, if there are any. -/
def subV (T : List Node) (l : List Int) : Option (List Int) := if mayV T = true ∧ l.length = T.length ∧ total T (at' l) < 18446744073709551616 then some (listOf T.length (S T (at' l))) else none
def withV (a b c : Nat) : Option Nat := if c ≤ a + b ∧ a + b - c < 18446744073709551616 then some (a + b - c) else none
def fitsAll (w p m : List Int) : Bool := (List.range w.length).all (fun i => decide (at' m i ≤ at' w i + at' p i ∧ at' w i + at' p i - at' m i < 18446744073709551616))
def passV (T : List Node) (w plus minus : List Int) : Option (List Int) :=
  match subV T plus, subV T minus with
  | some p, some m => if w.length = p.length ∧ fitsAll w p m = true then some (listOf w.length (fun i => at' w i + at' p i - at' m i)) else none
  | _, _ => none
def upB (T : List Node) (l : List Int) (i : Nat) : Bool := if (nd T i).par < 0 then true else decide (at' l (nd T i).par.toNat + at' l i < 18446744073709551616)
def upL (T : List Node) (l : List Int) (i : Nat) : List Int := if (nd T i).par < 0 then l else l.set (nd T i).par.toNat (((if at' l (nd T i).par.toNat + at' l i < 18446744073709551616 then at' l (nd T i).par.toNat + at' l i else 0 : Nat)) : Int)
/-- The numbers where the places from j on have handed on theirs. -/
def LW (T : List Node) (l : List Int) (j : Nat) : List Int := listOf T.length (W T (at' l) j)
theorem at_listOf {n : Nat} {f : Nat → Nat} {k : Nat} (h : k < n) : at' (listOf n f) k = f k := by unfold at'; rw [nth_listOf h]; simp
theorem listOf_congr {n : Nat} {f g : Nat → Nat} (h : ∀ k, k < n → f k = g k) : listOf n f = listOf n g := by
  unfold listOf
  exact List.map_congr_left (fun k hk => by rw [h k (List.mem_range.1 hk)])
theorem listOf_at {l : List Int} (h : ∀ x ∈ l, 0 ≤ x) : listOf l.length (at' l) = l := by
  refine nth_ext (by rw [listOf_len]) (fun i hi => ?_)
  rw [listOf_len] at hi
  rw [nth_listOf hi]
  unfold at'
  rw [Int.toNat_of_nonneg]
  rw [nth_eq hi]
  exact h _ (List.getElem_mem _)
theorem LW_start {T : List Node} {l : List Int} (hl : l.length = T.length) (h : ∀ x ∈ l, 0 ≤ x) : LW T l T.length = l := by
  unfold LW
  rw [listOf_congr (fun k _ => W_start T (at' l) k), ← hl]
  exact listOf_at h
theorem set_listOf {n : Nat} {f g : Nat → Nat} {p : Nat} (hp : p < n) (x : Nat) (h : ∀ k, k < n → g k = if k = p then x else f k) : (listOf n f).set p (x : Int) = listOf n g := by
  refine nth_ext (by simp [listOf_len]) (fun i hi => ?_)
  rw [List.length_set, listOf_len] at hi
  rw [nth_listOf hi, h i hi]
  unfold nth
  by_cases e : i = p
  · subst e
    rw [if_pos rfl]
    simp [List.getD, listOf_len, hp]
  · rw [if_neg e]
    have := nth_listOf (f := f) hi
    unfold nth at this
    simp only [List.getD, List.getElem?_set_ne (fun e' => e e'.symm)] at this ⊢
    exact this
section
variable {T : List Node} (hm : mayV T = true) (l : List Int)
include hm
theorem up_step {i : Nat} (hi : i < T.length) (h : upB T (LW T l (i + 1)) i = true) : upL T (LW T l (i + 1)) i = LW T l i := by
  by_cases h0 : i = 0
  · subst h0
    unfold upL
    rw [par_zero hm, if_pos (by omega)]
    exact listOf_congr (fun k _ => (W_zero T (at' l) k).symm)
  · obtain ⟨_, _, hp⟩ := par_pos hm hi h0
    have hu := up_lt T h0
    unfold upB at h
    unfold upL
    rw [hp, if_neg (by omega), Int.toNat_natCast] at h ⊢
    have e1 : at' (LW T l (i + 1)) (up T i) = W T (at' l) (i + 1) (up T i) := at_listOf (by omega)
    have e2 : at' (LW T l (i + 1)) i = S T (at' l) i := (at_listOf hi).trans (W_full T (at' l) hi (Nat.le_refl _))
    rw [e1, e2] at h ⊢
    rw [if_pos (of_decide_eq_true h)]
    refine set_listOf (by omega) _ (fun k _ => ?_)
    rw [W_step T (at' l) hi h0 k]
    by_cases e : k = up T i
    · subst e; rw [if_pos rfl, if_pos rfl]
    · rw [if_neg e, if_neg e]; rfl
theorem up_fail {i : Nat} (hi : i < T.length) (h : upB T (LW T l (i + 1)) i = false) : ¬ total T (at' l) < 18446744073709551616 := by
  intro ht
  by_cases h0 : i = 0
  · subst h0
    unfold upB at h
    rw [par_zero hm, if_pos (by omega)] at h
    cases h
  · obtain ⟨_, _, hp⟩ := par_pos hm hi h0
    have hu := up_lt T h0
    unfold upB at h
    rw [hp, if_neg (by omega), Int.toNat_natCast] at h
    have e1 : at' (LW T l (i + 1)) (up T i) = W T (at' l) (i + 1) (up T i) := at_listOf (by omega)
    have e2 : at' (LW T l (i + 1)) i = S T (at' l) i := (at_listOf hi).trans (W_full T (at' l) hi (Nat.le_refl _))
    rw [e1, e2] at h
    have h := of_decide_eq_false h
    have h1 := W_step T (at' l) hi h0 (up T i)
    rw [if_pos rfl] at h1
    have h2 := W_le T (at' l) i (x := up T i) (by omega)
    omega
theorem LW_end : LW T l 0 = listOf T.length (S T (at' l)) := listOf_congr (fun k hk => W_full T (at' l) hk (Nat.zero_le _))
theorem total_end (h : at' (LW T l 0) 0 < 18446744073709551616) : total T (at' l) < 18446744073709551616 := by
  have hp := len_pos hm
  rw [LW_end hm, at_listOf hp, S_zero] at h
  exact h
end
end Weight
end Go.Proofs.Ytjhhfininnlkfaa
