/- Roots as lists of bytes, plain laws: which one comes first. -/
import Derived.Test.YtamibbcdklpncaaInts
namespace Go.Proofs.Ytamibbcdklpncaa
set_option linter.unusedVariables false
set_option linter.unusedSimpArgs false
namespace Root
/-- Of two lists which comes first: -1, 0, 1. -/
def cmpV : List Int → List Int → Int
  | [], [] => 0
  | [], _ :: _ => -1
  | _ :: _, [] => 1
  | a :: l, b :: r => if a < b then -1 else if b < a then 1 else cmpV l r
def ltV (l r : List Int) : Bool := decide (cmpV l r < 0)
theorem cmp_self : ∀ l, cmpV l l = 0
  | [] => rfl
  | a :: l => by unfold cmpV; rw [if_neg (by omega), if_neg (by omega), cmp_self l]
theorem cmp_zero : ∀ {l r}, cmpV l r = 0 → l = r
  | [], [], _ => rfl
  | [], _ :: _, h => by unfold cmpV at h; omega
  | _ :: _, [], h => by unfold cmpV at h; omega
  | a :: l, b :: r, h => by
    unfold cmpV at h
    split at h
    · omega
    · split at h
      · omega
      · rw [cmp_zero h, show a = b by omega]
theorem cmp_range : ∀ l r, cmpV l r = -1 ∨ cmpV l r = 0 ∨ cmpV l r = 1
  | [], [] => .inr (.inl rfl)
  | [], _ :: _ => .inl rfl
  | _ :: _, [] => .inr (.inr rfl)
  | a :: l, b :: r => by
    unfold cmpV
    split
    · simp
    · split
      · simp
      · exact cmp_range l r
theorem cmp_swap : ∀ l r, cmpV r l = - cmpV l r
  | [], [] => rfl
  | [], _ :: _ => rfl
  | _ :: _, [] => rfl
  | a :: l, b :: r => by
    unfold cmpV
    have := cmp_swap l r
    split <;> split <;> (try split) <;> omega
theorem cmp_trans : ∀ {l m r}, cmpV l m < 0 → cmpV m r < 0 → cmpV l r < 0
  | [], [], _, h, _ => by unfold cmpV at h; omega
  | [], _ :: _, [], _, h => by unfold cmpV at h; omega
  | [], _ :: _, _ :: _, _, _ => by unfold cmpV; omega
  | _ :: _, [], _, h, _ => by unfold cmpV at h; omega
  | _ :: _, _ :: _, [], _, h => by unfold cmpV at h; omega
  | a :: l, b :: m, c :: r, h, g => by
    unfold cmpV at h g ⊢
    have := @cmp_trans l m r
    split at h
    · split at g
      · rw [if_pos (by omega)]; omega
      · split at g
        · omega
        · rw [if_pos (by omega)]; omega
    · split at h
      · omega
      · split at g
        · rw [if_pos (by omega)]; omega
        · split at g
          · omega
          · rw [if_neg (by omega), if_neg (by omega)]; exact this h g
theorem lt_irrefl (l : List Int) : ltV l l = false := by unfold ltV; rw [cmp_self]; rfl
theorem lt_trans {l m r : List Int} (h : ltV l m = true) (g : ltV m r = true) : ltV l r = true := by
  unfold ltV at *
  simp only [decide_eq_true_eq] at *
  exact cmp_trans h g
theorem lt_total {l r : List Int} (h : ltV l r = false) (g : ltV r l = false) : l = r := by
  unfold ltV at *
  simp only [decide_eq_false_iff_not] at *
  have := cmp_swap l r
  exact cmp_zero (by omega)
theorem lt_asymm {l r : List Int} (h : ltV l r = true) : ltV r l = false := by
  cases g : ltV r l with
  | false => rfl
  | true => have := lt_trans h g; rw [lt_irrefl] at this; cases this
theorem lt_ne {l r : List Int} (h : ltV l r = true) : l ≠ r := fun e => by rw [e, lt_irrefl] at h; cases h
theorem cmp_step {l r : List Int} {k : Nat} (hl : k < l.length) (hr : k < r.length) (e : nth l k = nth r k) : cmpV (l.drop k) (r.drop k) = cmpV (l.drop (k + 1)) (r.drop (k + 1)) := by
  rw [List.drop_eq_getElem_cons hl, List.drop_eq_getElem_cons hr]
  rw [nth_eq hl, nth_eq hr] at e
  conv => lhs; unfold cmpV
  rw [if_neg (by omega), if_neg (by omega)]
theorem cmp_here {l r : List Int} {k : Nat} (hl : k < l.length) (hr : k < r.length) (e : nth l k ≠ nth r k) : cmpV (l.drop k) (r.drop k) = if nth l k < nth r k then -1 else 1 := by
  rw [List.drop_eq_getElem_cons hl, List.drop_eq_getElem_cons hr]
  rw [nth_eq hl, nth_eq hr] at *
  conv => lhs; unfold cmpV
  by_cases h : l[k] < r[k]
  · rw [if_pos h, if_pos h]
  · rw [if_neg h, if_neg h, if_pos (by omega)]
end Root
end Go.Proofs.Ytamibbcdklpncaa
