/- What trees are, in plain lists: which may be, the way up from a place, who is above whom, children, where a root is found. -/
import Derived.Test.YtjhhfininnlkfaaNode
namespace Go.Proofs.Ytjhhfininnlkfaa
set_option linter.unusedVariables false
set_option linter.unusedSimpArgs false
namespace Tree
def nd (T : List Node) (i : Nat) : Node := T.getD i Node.zero
def fitsV (T : List Node) (i : Nat) : Bool :=
  if i = 0 then decide ((nd T 0).par = -1) && decide ((nd T 0).slot ≤ 1099511627776)
  else decide (0 ≤ (nd T i).par) && decide ((nd T i).par < i) && decide ((nd T i).slot ≤ 1099511627776) && decide ((nd T (nd T i).par.toNat).slot < (nd T i).slot)
def roots (T : List Node) : List (List Int) := T.map Node.root
def mayV (T : List Node) : Bool := decide (0 < T.length) && decide (T.length ≤ 12) && (List.range T.length).all (fitsV T) && decide (roots T).Nodup
theorem mayV_iff {T : List Node} : mayV T = true ↔ 0 < T.length ∧ T.length ≤ 12 ∧ (∀ i, i < T.length → fitsV T i = true) ∧ (roots T).Nodup := by
  unfold mayV
  simp [and_assoc]
/-- A place's parent's place. -/
def up (T : List Node) (k : Nat) : Nat := min (nd T k).par.toNat (k - 1)
def lineF (T : List Node) : Nat → Nat → List Nat
  | 0, _ => []
  | f + 1, k => k :: (if k = 0 then [] else lineF T f (up T k))
/-- A place, and all above it, one behind the other. -/
def line (T : List Node) (k : Nat) : List Nat := lineF T (k + 1) k
theorem up_lt (T : List Node) {k : Nat} (h : k ≠ 0) : up T k < k := by unfold up; omega
theorem lineF_more (T : List Node) : ∀ (k f f' : Nat), k < f → k < f' → lineF T f k = lineF T f' k := by
  intro k
  induction k using Nat.strongRecOn with
  | ind k ih =>
    intro f f' h h'
    obtain ⟨f, rfl⟩ : ∃ g, f = g + 1 := ⟨f - 1, by omega⟩
    obtain ⟨f', rfl⟩ : ∃ g, f' = g + 1 := ⟨f' - 1, by omega⟩
    show k :: (if k = 0 then [] else lineF T f (up T k)) = k :: (if k = 0 then [] else lineF T f' (up T k))
    by_cases h0 : k = 0
    · simp [h0]
    · have hu := up_lt T h0
      rw [if_neg h0, if_neg h0, ih _ hu f f' (by omega) (by omega)]
theorem line_eq (T : List Node) (k : Nat) : line T k = k :: (if k = 0 then [] else line T (up T k)) := by
  show k :: (if k = 0 then [] else lineF T k (up T k)) = _
  by_cases h0 : k = 0
  · simp [h0]
  · rw [if_neg h0, if_neg h0, lineF_more T _ k (up T k + 1) (up_lt T h0) (by omega)]
    rfl
theorem line_zero (T : List Node) : line T 0 = [0] := rfl
theorem line_pos (T : List Node) {k : Nat} (h : k ≠ 0) : line T k = k :: line T (up T k) := by rw [line_eq, if_neg h]
theorem mem_self (T : List Node) (k : Nat) : k ∈ line T k := by rw [line_eq]; simp
theorem mem_pos {T : List Node} {i k : Nat} (h : k ≠ 0) : i ∈ line T k ↔ i = k ∨ i ∈ line T (up T k) := by rw [line_pos T h, List.mem_cons]
theorem mem_le {T : List Node} : ∀ {k i : Nat}, i ∈ line T k → i ≤ k := by
  intro k
  induction k using Nat.strongRecOn with
  | ind k ih =>
    intro i h
    by_cases h0 : k = 0
    · subst h0; rw [line_zero] at h; simp at h; omega
    · rcases (mem_pos h0).1 h with rfl | h
      · exact Nat.le_refl _
      · have := ih _ (up_lt T h0) h
        have := up_lt T h0
        omega
theorem zero_mem (T : List Node) : ∀ k, 0 ∈ line T k := by
  intro k
  induction k using Nat.strongRecOn with
  | ind k ih =>
    by_cases h0 : k = 0
    · subst h0; exact mem_self T 0
    · exact (mem_pos h0).2 (.inr (ih _ (up_lt T h0)))
theorem mem_trans {T : List Node} : ∀ {m k i : Nat}, i ∈ line T k → k ∈ line T m → i ∈ line T m := by
  intro m
  induction m using Nat.strongRecOn with
  | ind m ih =>
    intro k i h g
    by_cases h0 : m = 0
    · subst h0; rw [line_zero] at g; simp at g; subst g; exact h
    · rcases (mem_pos h0).1 g with rfl | g
      · exact h
      · exact (mem_pos h0).2 (.inr (ih _ (up_lt T h0) h g))
/-- The way up goes down in places. -/
theorem line_desc (T : List Node) : ∀ k, (line T k).Pairwise (fun a b => b < a) := by
  intro k
  induction k using Nat.strongRecOn with
  | ind k ih =>
    by_cases h0 : k = 0
    · subst h0; rw [line_zero]; simp
    · rw [line_pos T h0, List.pairwise_cons]
      refine ⟨fun a ha => ?_, ih _ (up_lt T h0)⟩
      have := mem_le ha
      have := up_lt T h0
      omega
theorem not_above {T : List Node} {k i x : Nat} {pre : List Nat} (h : (pre ++ [x]) <+: line T k) (hp : ∀ a ∈ pre, i < a) (hx : x < i) : i ∉ line T k := by
  intro hm
  obtain ⟨rest, e⟩ := h
  have hd := line_desc T k
  rw [← e] at hm hd
  rcases List.mem_append.1 hm with h1 | h1
  · rcases List.mem_append.1 h1 with h2 | h2
    · have := hp i h2; omega
    · simp at h2; omega
  · have := (List.pairwise_append.1 hd).2.2 x (by simp) i h1
    omega
theorem mem_anti {T : List Node} {i k : Nat} (h : i ∈ line T k) (g : k ∈ line T i) : i = k := Nat.le_antisymm (mem_le h) (mem_le g)
/-- Of two that are above a third one the less is above the other. -/
theorem mem_chain {T : List Node} : ∀ {m i k : Nat}, i ∈ line T m → k ∈ line T m → i ≤ k → i ∈ line T k := by
  intro m
  induction m using Nat.strongRecOn with
  | ind m ih =>
    intro i k h g hle
    by_cases h0 : m = 0
    · subst h0; rw [line_zero] at h g; simp at h g; subst h; subst g; exact mem_self T 0
    · rcases (mem_pos h0).1 g with rfl | g'
      · exact h
      · rcases (mem_pos h0).1 h with rfl | h'
        · have := mem_le g'
          have := up_lt T h0
          omega
        · exact ih _ (up_lt T h0) h' g' hle
theorem line_split {T : List Node} : ∀ {m k : Nat}, k ∈ line T m → ∃ pre, line T m = pre ++ line T k ∧ ∀ a ∈ pre, k < a := by
  intro m
  induction m using Nat.strongRecOn with
  | ind m ih =>
    intro k h
    by_cases h0 : m = 0
    · subst h0; rw [line_zero] at h; simp at h; subst h; exact ⟨[], rfl, by simp⟩
    · rcases (mem_pos h0).1 h with rfl | h'
      · exact ⟨[], rfl, by simp⟩
      · obtain ⟨pre, e, hp⟩ := ih _ (up_lt T h0) h'
        refine ⟨m :: pre, by rw [line_pos T h0, e]; rfl, fun a ha => ?_⟩
        rcases List.mem_cons.1 ha with rfl | ha
        · have := mem_le h'
          have := up_lt T h0
          omega
        · exact hp a ha
/-! ### trees that may be -/
section
variable {T : List Node} (hm : mayV T = true)
include hm
theorem len_pos : 0 < T.length := (mayV_iff.1 hm).1
theorem len_le : T.length ≤ 12 := (mayV_iff.1 hm).2.1
theorem par_zero : (nd T 0).par = -1 := by
  have := (mayV_iff.1 hm).2.2.1 0 (len_pos hm)
  unfold fitsV at this
  simp at this
  exact this.1
theorem slot_le {i : Nat} (hi : i < T.length) : (nd T i).slot ≤ 1099511627776 := by
  have := (mayV_iff.1 hm).2.2.1 i hi
  unfold fitsV at this
  by_cases h0 : i = 0
  · subst h0; simp at this; exact this.2
  · simp [h0] at this; omega
theorem par_pos {i : Nat} (hi : i < T.length) (h0 : i ≠ 0) : 0 ≤ (nd T i).par ∧ (nd T i).par < i ∧ (nd T i).par = (up T i : Nat) := by
  have := (mayV_iff.1 hm).2.2.1 i hi
  unfold fitsV at this
  simp [h0] at this
  unfold up
  omega
theorem slot_up {i : Nat} (hi : i < T.length) (h0 : i ≠ 0) : (nd T (up T i)).slot < (nd T i).slot := by
  have h := par_pos hm hi h0
  have := (mayV_iff.1 hm).2.2.1 i hi
  unfold fitsV at this
  simp [h0] at this
  have e : (nd T i).par.toNat = up T i := by omega
  rw [e] at this
  omega
theorem slot_mono : ∀ {k i : Nat}, k < T.length → i ∈ line T k → (nd T i).slot ≤ (nd T k).slot ∧ (i ≠ k → (nd T i).slot < (nd T k).slot) := by
  intro k
  induction k using Nat.strongRecOn with
  | ind k ih =>
    intro i hk h
    by_cases h0 : k = 0
    · subst h0; rw [line_zero] at h; simp at h; subst h; exact ⟨Nat.le_refl _, fun e => absurd rfl e⟩
    · rcases (mem_pos h0).1 h with rfl | h'
      · exact ⟨Nat.le_refl _, fun e => absurd rfl e⟩
      · have hu := up_lt T h0
        have h1 := (ih _ hu (by omega) h').1
        have h2 := slot_up hm hk h0
        exact ⟨by omega, fun _ => by omega⟩
theorem nodup : (roots T).Nodup := (mayV_iff.1 hm).2.2.2
end
theorem roots_get {T : List Node} {i : Nat} (h : i < T.length) : (roots T)[i]? = some (nd T i).root := by
  unfold roots nd
  simp [h, List.getD]
/-- Where a root is found. -/
def findV (T : List Node) (r : List Int) : Int := if mayV T = true ∧ r ∈ roots T then ((roots T).idxOf r : Nat) else -1
/-- Are both places of it? -/
def isV (T : List Node) (i : Int) : Bool := mayV T && decide (0 ≤ i ∧ i < T.length)
def aboveV (T : List Node) (i k : Int) : Bool := isV T i && isV T k && decide (i.toNat ∈ line T k.toNat)
def optI : Option Nat → Int
  | some a => (a : Int)
  | none => -1
def atV (T : List Node) (i : Int) (s : Nat) : Int := if isV T i then optI ((line T i.toNat).find? (fun a => decide ((nd T a).slot ≤ s))) else -1
def kidsN (T : List Node) (i : Int) : List Nat := (List.range T.length).filter (fun k => decide ((nd T k).par = i))
def kidsV (T : List Node) (i : Int) : List Int := if isV T i then (kidsN T i).map (fun k => ((k : Nat) : Int)) else []
/-! ### what is cut -/
/-- Those among the first places that are kept. -/
def keptTo (T : List Node) (i k : Nat) : List Nat := (List.range k).filter (fun j => decide (i ∈ line T j))
def newPar (T : List Node) (i j : Nat) : Int := if j = i then -1 else ((keptTo T i j).idxOf (up T j) : Nat)
def cutTo (T : List Node) (i k : Nat) : List Node := (keptTo T i k).map (fun j => { nd T j with par := newPar T i j })
def cutV (T : List Node) (i : Int) : List Node := if isV T i then cutTo T i.toNat T.length else []
theorem kept_yes {T : List Node} {i k : Nat} (h : i ∈ line T k) : keptTo T i (k + 1) = keptTo T i k ++ [k] := by
  unfold keptTo; rw [List.range_succ, List.filter_append]; simp [h]
theorem kept_no {T : List Node} {i k : Nat} (h : i ∉ line T k) : keptTo T i (k + 1) = keptTo T i k := by
  unfold keptTo; rw [List.range_succ, List.filter_append]; simp [h]
theorem mem_kept {T : List Node} {i k j : Nat} : j ∈ keptTo T i k ↔ j < k ∧ i ∈ line T j := by unfold keptTo; simp
theorem kept_self (T : List Node) (i : Nat) : keptTo T i i = [] := by
  apply List.eq_nil_iff_forall_not_mem.2
  intro j hj
  obtain ⟨h1, h2⟩ := mem_kept.1 hj
  have := mem_le h2
  omega
theorem kept_nodup (T : List Node) (i k : Nat) : (keptTo T i k).Nodup := List.Pairwise.filter _ List.nodup_range
theorem kept_len (T : List Node) (i k : Nat) : (keptTo T i k).length ≤ k := by
  unfold keptTo
  exact Nat.le_trans (List.length_filter_le _ _) (by simp)
theorem cut_yes {T : List Node} {i k : Nat} (h : i ∈ line T k) : cutTo T i (k + 1) = cutTo T i k ++ [{ nd T k with par := newPar T i k }] := by
  unfold cutTo; rw [kept_yes h, List.map_append]; rfl
theorem cut_no {T : List Node} {i k : Nat} (h : i ∉ line T k) : cutTo T i (k + 1) = cutTo T i k := by
  unfold cutTo; rw [kept_no h]
theorem cut_len (T : List Node) (i k : Nat) : (cutTo T i k).length = (keptTo T i k).length := by unfold cutTo; simp
/-- Is the parent kept? -/
theorem par_kept {T : List Node} (hm : mayV T = true) {i k : Nat} (hk : k < T.length) (hne : k ≠ i) : ((nd T k).par ∈ (keptTo T i k).map (fun j => ((j : Nat) : Int))) ↔ i ∈ line T k := by
  by_cases h0 : k = 0
  · subst h0
    rw [par_zero hm, line_zero]
    constructor
    · intro h
      obtain ⟨j, _, hj⟩ := List.mem_map.1 h
      omega
    · intro h
      simp at h
      exact absurd h.symm hne
  · obtain ⟨_, _, hp⟩ := par_pos hm hk h0
    have hu := up_lt T h0
    rw [hp, mem_pos h0]
    constructor
    · intro h
      obtain ⟨j, hj, e⟩ := List.mem_map.1 h
      have e : j = up T k := by omega
      subst e
      exact .inr (mem_kept.1 hj).2
    · intro h
      rcases h with h | h
      · exact absurd h.symm hne
      · exact List.mem_map.2 ⟨_, mem_kept.2 ⟨hu, h⟩, rfl⟩
theorem idx_map (K : List Nat) (x : Nat) : (K.map (fun j => ((j : Nat) : Int))).idxOf (x : Int) = K.idxOf x := by
  induction K with
  | nil => rfl
  | cons a K ih =>
    simp only [List.map_cons, List.idxOf_cons, ih]
    by_cases e : a = x
    · subst e; simp
    · have : ((a : Int) == (x : Int)) = false := by simp; omega
      have h2 : (a == x) = false := by simp; exact e
      rw [this, h2]
theorem newPar_kept {T : List Node} (hm : mayV T = true) {i k : Nat} (hk : k < T.length) (hne : k ≠ i) (h : i ∈ line T k) : newPar T i k = (((keptTo T i k).map (fun j => ((j : Nat) : Int))).idxOf (nd T k).par : Nat) := by
  have h0 : k ≠ 0 := fun e => by subst e; rw [line_zero] at h; simp at h; exact hne h.symm
  obtain ⟨_, _, hp⟩ := par_pos hm hk h0
  unfold newPar
  rw [if_neg hne, hp, idx_map]
/-! ### at places that there are -/
section
variable {T : List Node} (hm : mayV T = true)
include hm
theorem isV_in {i : Int} (h1 : 0 ≤ i) (h2 : i < T.length) : isV T i = true := by unfold isV; rw [hm]; simp; omega
theorem above_eq {i k : Nat} (hi : i < T.length) (hk : k < T.length) : aboveV T i k = decide (i ∈ line T k) := by
  unfold aboveV
  rw [isV_in hm (by omega) (by omega), isV_in hm (by omega) (by omega)]
  rfl
theorem above_iff {i k : Nat} (hi : i < T.length) (hk : k < T.length) : aboveV T i k = true ↔ i ∈ line T k := by rw [above_eq hm hi hk]; simp
end
theorem at_spec {T : List Node} (hm : mayV T = true) {i : Nat} (hi : i < T.length) (s : Nat) : (atV T i s = -1 ∧ ∀ k ∈ line T i, s < (nd T k).slot) ∨ ∃ a : Nat, atV T i s = a ∧ a ∈ line T i ∧ (nd T a).slot ≤ s ∧ ∀ k ∈ line T i, (nd T k).slot ≤ s → k ∈ line T a := by
  unfold atV
  rw [isV_in hm (by omega) (by omega), if_pos rfl, Int.toNat_natCast]
  cases h : (line T i).find? (fun a => decide ((nd T a).slot ≤ s)) with
  | none =>
    refine .inl ⟨rfl, fun k hk => ?_⟩
    have := List.find?_eq_none.1 h k hk
    simp at this
    exact this
  | some a =>
    have h1 := List.find?_some h
    simp at h1
    have ha := List.mem_of_find?_eq_some h
    refine .inr ⟨a, rfl, ha, h1, fun k hk hs => ?_⟩
    rcases Nat.le_total k a with hle | hle
    · exact mem_chain hk ha hle
    · -- k is ahead of a: then it would have been found
      have hak := mem_chain ha hk hle
      by_cases e : k = a
      · subst e; exact mem_self T k
      · exfalso
        obtain ⟨l1, l2, e1, h3⟩ := List.find?_eq_some_iff_append.1 h |>.2
        have hd := line_desc T i
        rw [e1] at hk hd
        rcases List.mem_append.1 hk with h4 | h4
        · have := h3 k h4; simp at this; omega
        · rcases List.mem_cons.1 h4 with h5 | h5
          · exact e h5
          · have := (List.pairwise_cons.1 (List.pairwise_append.1 hd).2.1).1 k h5
            omega
end Tree
end Go.Proofs.Ytjhhfininnlkfaa
