/- The plain laws of layer 5: what Post, Take and Close do to what may be. -/
import Derived.Test.YtfngnajcmdaphaaBoxAwake
namespace Go.Proofs.Ytfngnajcmdaphaa
open Go.RowKit Go.WideShapes Go.ChangeShapes
set_option linter.unusedVariables false
set_option linter.unusedSimpArgs false
namespace Box
/-- By rising versions. -/
theorem rise_iff {l : List Note} : (∀ i, i < l.length → badAt l i = false) ↔ ∀ i, i + 1 < l.length → (nt l i).ver < (nt l (i + 1)).ver := by
  constructor
  · intro h i hi
    have := h (i + 1) hi
    unfold badAt at this
    rw [decide_eq_true (show 0 < i + 1 by omega), Bool.true_and, Nat.add_sub_cancel] at this
    have := of_decide_eq_false this
    omega
  · intro h i hi
    unfold badAt
    by_cases h0 : 0 < i
    · obtain ⟨k, rfl⟩ : ∃ k, i = k + 1 := ⟨i - 1, by omega⟩
      have := h k hi
      rw [Nat.add_sub_cancel]
      simp
      omega
    · simp [h0]
theorem may_iff {cap : Int} {l : List Note} : mayV cap l = true ↔ (∀ i, i + 1 < l.length → (nt l i).ver < (nt l (i + 1)).ver) ∧ 0 ≤ cap ∧ cap ≤ 8 ∧ (l.length : Int) ≤ cap := by
  rw [mayV_iff, rise_iff]
theorem nt_app_lt {l : List Note} {x : Note} {i : Nat} (h : i < l.length) : nt (l ++ [x]) i = nt l i := by unfold nt; simp [List.getD, List.getElem?_append_left h]
theorem nt_app_end (l : List Note) (x : Note) : nt (l ++ [x]) l.length = x := by unfold nt; simp [List.getD]
theorem nt_cons (y : Note) (l : List Note) (i : Nat) : nt (y :: l) (i + 1) = nt l i := by unfold nt; simp [List.getD]
theorem postW_may {cap : Int} {l : List Note} {lag cl : Bool} {x : Note} (h : mayV cap l = true) : mayV cap (postW cap l lag cl x).2.1 = true := by
  unfold postW
  split
  · exact h
  · rename_i hc
    split
    · exact h
    · rename_i he
      have hm := may_iff.1 h
      refine may_iff.2 ⟨fun i hi => ?_, hm.2.1, hm.2.2.1, by simp; omega⟩
      simp at hi
      by_cases hi' : i + 1 < l.length
      · show (nt (l ++ [x]) i).ver < (nt (l ++ [x]) (i + 1)).ver
        rw [nt_app_lt (by omega), nt_app_lt hi']; exact hm.1 i hi'
      · have e : i + 1 = l.length := by omega
        show (nt (l ++ [x]) i).ver < (nt (l ++ [x]) (i + 1)).ver
        rw [nt_app_lt (by omega), e, nt_app_end]
        have e' : l.length - 1 = i := by omega
        rw [e'] at hc
        have : ¬ x.ver ≤ (nt l i).ver := fun h => hc (.inr ⟨by omega, h⟩)
        omega
theorem takeW_may {cap : Int} {l : List Note} {x : Note} (h : mayV cap l = true) : mayV cap (takeW l x).2.1 = true := by
  cases l with
  | nil => exact h
  | cons y l =>
    have hm := may_iff.1 h
    refine may_iff.2 ⟨fun i hi => ?_, hm.2.1, hm.2.2.1, by have := hm.2.2.2; simp at this; show (l.length : Int) ≤ cap; omega⟩
    have := hm.1 (i + 1) (by simp; exact hi)
    rw [nt_cons, nt_cons] at this
    exact this
theorem postD_may {cap : Int} {l : List Note} {lag cl : Bool} {x : Note} : mayV cap (postD cap l lag cl x).2.1 = mayV cap l := by
  unfold postD
  by_cases h : mayV cap l = true
  · rw [if_pos h, postW_may h, h]
  · rw [if_neg h]
theorem takeD_may {cap : Int} {l : List Note} : mayV cap (takeD cap l).2.1 = mayV cap l := by
  unfold takeD
  by_cases h : mayV cap l = true
  · rw [if_pos h, takeW_may h, h]
  · rw [if_neg h]
theorem postW_ge {cap : Int} {l : List Note} {lag cl : Bool} {x : Note} : l.length ≤ (postW cap l lag cl x).2.1.length := by
  unfold postW
  split
  · exact Nat.le_refl _
  · split <;> simp
theorem takeW_is {l : List Note} {x : Note} : (takeW l x).1 = decide (0 < l.length) := by cases l <;> simp [takeW]
theorem post_no {cap : Int} {l : List Note} {lag cl : Bool} {x : Note} (h : mayV cap l = false) : postD cap l lag cl x = (false, l, lag) := by unfold postD; rw [if_neg (by rw [h]; simp)]
theorem take_no {cap : Int} {l : List Note} (h : mayV cap l = false) : takeD cap l = (false, l, Note.zero) := by unfold takeD; rw [if_neg (by rw [h]; simp)]
theorem close_no {cap : Int} {l : List Note} {cl : Bool} (h : mayV cap l = false) : closeD cap l cl = (false, cl) := by unfold closeD; rw [if_neg (by rw [h]; simp)]
theorem post_yes {cap : Int} {l : List Note} {lag cl : Bool} {x : Note} (h : mayV cap l = true) : postD cap l lag cl x = postW cap l lag cl x := by unfold postD; rw [if_pos h]
theorem take_yes {cap : Int} {l : List Note} (h : mayV cap l = true) : takeD cap l = takeW l Note.zero := by unfold takeD; rw [if_pos h]
theorem close_yes {cap : Int} {l : List Note} {cl : Bool} (h : mayV cap l = true) : closeD cap l cl = (!cl, true) := by unfold closeD; rw [if_pos h]
theorem nt_drop (l : List Note) (i j : Nat) : nt (l.drop i) j = nt l (i + j) := by unfold nt; simp [List.getD]
theorem drop_may {cap : Int} {l : List Note} (h : mayV cap l = true) (i : Nat) : mayV cap (l.drop i) = true := by
  have hm := may_iff.1 h
  refine may_iff.2 ⟨fun j hj => ?_, hm.2.1, hm.2.2.1, by have := hm.2.2.2; simp; omega⟩
  rw [nt_drop, nt_drop]
  have := hm.1 (i + j) (by simp at hj; omega)
  rw [Nat.add_assoc] at this
  exact this
theorem drop_cons {l : List Note} {i : Nat} (h : i < l.length) : l.drop i = nt l i :: l.drop (i + 1) := by
  rw [List.drop_eq_getElem_cons h]
  unfold nt
  simp [List.getD, h]
theorem take_snoc {l : List Note} {i : Nat} (h : i < l.length) : l.take (i + 1) = l.take i ++ [nt l i] := by
  rw [List.take_add_one]
  unfold nt
  simp [List.getD, h]
theorem take_drop {cap : Int} {l : List Note} (h : mayV cap l = true) {i : Nat} (hi : i < l.length) : takeD cap (l.drop i) = (true, l.drop (i + 1), nt l i) := by
  rw [take_yes (drop_may h i), drop_cons hi]; rfl
end Box
end Go.Proofs.Ytfngnajcmdaphaa
