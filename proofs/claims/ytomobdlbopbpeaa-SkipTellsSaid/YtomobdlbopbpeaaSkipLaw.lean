/- What the laws of layer 7 use: plain laws of meeting places and depths. -/
import Derived.Test.YtomobdlbopbpeaaSkipAwake
import Derived.Test.YtomobdlbopbpeaaQuietX
namespace Go.Proofs.Ytomobdlbopbpeaa
open Go.RowKit Go.WideShapes Go.ChangeShapes
set_option linter.unusedVariables false
set_option linter.unusedSimpArgs false
namespace Skip
open Tree
theorem meet_spec (T : List Node) (a b : Nat) : ∃ m : Nat, climbV T (fun x => decide (x ∈ line T b)) a = m ∧ m ∈ line T a ∧ m ∈ line T b ∧ ∀ c, c ∈ line T a → c ∈ line T b → c ∈ line T m := by
  unfold climbV
  cases h : (line T a).find? (fun x => decide (x ∈ line T b)) with
  | none =>
    have := List.find?_eq_none.1 h 0 (zero_mem T a)
    simp [zero_mem T b] at this
  | some m =>
    have h1 := List.find?_some h
    simp at h1
    have ha := List.mem_of_find?_eq_some h
    refine ⟨m, rfl, ha, h1, fun k hk hs => ?_⟩
    rcases Nat.le_total k m with hle | hle
    · exact mem_chain hk ha hle
    · by_cases e : k = m
      · subst e; exact mem_self T k
      · exfalso
        obtain ⟨l1, l2, e1, h3⟩ := List.find?_eq_some_iff_append.1 h |>.2
        have hd := line_desc T a
        rw [e1] at hk hd
        rcases List.mem_append.1 hk with h4 | h4
        · have := h3 k h4; simp at this; exact this hs
        · rcases List.mem_cons.1 h4 with h5 | h5
          · exact e h5
          · have := (List.pairwise_cons.1 (List.pairwise_append.1 hd).2.1).1 k h5
            omega
theorem meetV_in {T : List Node} (hm : mayV T = true) {a b : Nat} (ha : a < T.length) (hb : b < T.length) : meetV T (a : Int) (b : Int) = climbV T (fun x => decide (x ∈ line T b)) a := by
  unfold meetV
  rw [if_pos ⟨isV_in hm (by omega) (by omega), isV_in hm (by omega) (by omega)⟩]
  rfl
/-- The last one above both: what it is, and that it is one only. -/
theorem meet_full {T : List Node} (hm : mayV T = true) {a b : Nat} (ha : a < T.length) (hb : b < T.length) : ∃ m : Nat, meetV T (a : Int) (b : Int) = m ∧ meetV T (b : Int) (a : Int) = m ∧ m ≤ a ∧ m ≤ b ∧ m ∈ line T a ∧ m ∈ line T b ∧ (∀ c, c ∈ line T a → c ∈ line T b → c ∈ line T m) ∧ (m = a ↔ a ∈ line T b) := by
  rw [meetV_in hm ha hb, meetV_in hm hb ha]
  obtain ⟨m, h1, h2, h3, h4⟩ := meet_spec T a b
  obtain ⟨n, g1, g2, g3, g4⟩ := meet_spec T b a
  have e : n = m := mem_anti (h4 n g3 g2) (g4 m h3 h2)
  subst e
  refine ⟨n, h1, g1, mem_le h2, mem_le h3, h2, h3, h4, fun e => ?_, fun h => ?_⟩
  · subst e; exact h3
  · exact mem_anti h2 (h4 a (mem_self T a) h)
theorem deep_mono {T : List Node} {a b : Nat} (h : a ∈ line T b) : deepN T a ≤ deepN T b := by
  obtain ⟨pre, e, _⟩ := line_split h
  unfold deepN
  rw [e, List.length_append]
  omega
theorem anc_last (T : List Node) (i : Nat) : anc T i (deepN T i) = 0 := by
  induction i using Nat.strongRecOn with
  | ind i ih =>
    by_cases h0 : i = 0
    · subst h0; rfl
    · rw [deep_pos h0]
      have := ih _ (up_lt T h0)
      unfold anc at this ⊢
      rw [line_pos T h0, List.getElem?_cons_succ]
      exact this
theorem anc_past (T : List Node) (i : Nat) : anc T i (deepN T i + 1) = -1 := by
  rcases anc_cases T i (deepN T i + 1) with ⟨h, _⟩ | ⟨a, _, h, _⟩
  · exact h
  · omega
theorem deepV_in {T : List Node} (hm : mayV T = true) {a : Nat} (ha : a < T.length) : deepV T (a : Int) = (deepN T a : Nat) := by
  unfold deepV
  rw [if_pos (isV_in hm (by omega) (by omega))]
  rfl
theorem upV_in {T : List Node} (hm : mayV T = true) {a n : Nat} (ha : a < T.length) : upV T (a : Int) (n : Int) = anc T a n := by
  unfold upV
  rw [if_pos ⟨isV_in hm (by omega) (by omega), by omega⟩]
  rfl
end Skip
end Go.Proofs.Ytomobdlbopbpeaa
