/- The document's Sort, plain laws: each root put in behind the last one that is no greater. Rows that are cut. -/
import Derived.Test.YtamibbcdklpncaaRootRef
namespace Go.Proofs.Ytamibbcdklpncaa
open Go.RowKit Go.WideShapes Go.ChangeShapes
set_option linter.unusedVariables false
set_option linter.unusedSimpArgs false
namespace Root
/-- Where x goes, if it is less than all from place j on. -/
def posV (x : List Int) (S : List (List Int)) : Nat → Nat
  | 0 => 0
  | j + 1 => if ltV x (S.getD j zeroR) = true then posV x S j else j + 1
theorem pos_le (x : List Int) (S : List (List Int)) : ∀ j, posV x S j ≤ j
  | 0 => Nat.le_refl _
  | j + 1 => by
    unfold posV
    split
    · have := pos_le x S j; omega
    · exact Nat.le_refl _
theorem pos_less (x : List Int) (S : List (List Int)) : ∀ j i, posV x S j ≤ i → i < j → ltV x (S.getD i zeroR) = true
  | 0, i, _, h => absurd h (Nat.not_lt_zero _)
  | j + 1, i, h, g => by
    unfold posV at h
    split at h
    · rename_i hx
      by_cases e : i = j
      · subst e; exact hx
      · exact pos_less x S j i h (by omega)
    · omega
theorem pos_stop (x : List Int) (S : List (List Int)) : ∀ j, 0 < posV x S j → ltV x (S.getD (posV x S j - 1) zeroR) = false
  | 0, h => absurd h (Nat.lt_irrefl _)
  | j + 1, h => by
    unfold posV at h ⊢
    split
    · rename_i hx
      rw [if_pos hx] at h
      exact pos_stop x S j h
    · rename_i hx
      simpa using hx
def insAt (x : List Int) (S : List (List Int)) (p : Nat) : List (List Int) := S.take p ++ [x] ++ S.drop p
def insV (S : List (List Int)) (x : List Int) : List (List Int) :=
  if 0 < posV x S S.length ∧ S.getD (posV x S S.length - 1) zeroR = x then S else insAt x S (posV x S S.length)
theorem getD_at {S : List (List Int)} {i : Nat} (h : i < S.length) : S.getD i zeroR = S[i] := by simp [List.getD, h]
theorem ins_mem (S : List (List Int)) (x y : List Int) : y ∈ insV S x ↔ y ∈ S ∨ y = x := by
  unfold insV
  have hp := pos_le x S S.length
  split
  · rename_i h
    have hm : x ∈ S := by
      have h2 := h.2
      rw [getD_at (by omega)] at h2
      rw [← h2]
      exact List.getElem_mem _
    constructor
    · exact Or.inl
    · rintro (h | rfl)
      · exact h
      · exact hm
  · unfold insAt
    rw [List.mem_append, List.mem_append, List.mem_singleton]
    have e : y ∈ S ↔ y ∈ S.take (posV x S S.length) ∨ y ∈ S.drop (posV x S S.length) := by
      rw [← List.mem_append, List.take_append_drop]
    rw [e]
    constructor
    · rintro ((h | h) | h)
      · exact .inl (.inl h)
      · exact .inr h
      · exact .inl (.inr h)
    · rintro ((h | h) | h)
      · exact .inl (.inl h)
      · exact .inr h
      · exact .inl (.inr h)
theorem strict_get {S : List (List Int)} (h : Strict S) {i j : Nat} (hi : i < j) (hj : j < S.length) : ltV S[i] S[j] = true := List.pairwise_iff_getElem.1 h i j (by omega) hj hi
theorem ins_strict {S : List (List Int)} (h : Strict S) (x : List Int) : Strict (insV S x) := by
  unfold insV
  have hp := pos_le x S S.length
  split
  · exact h
  · rename_i hne
    unfold insAt
    have hlow : ∀ y ∈ S.take (posV x S S.length), ltV y x = true := by
      intro y hy
      obtain ⟨i, hi, rfl⟩ := List.getElem_of_mem hy
      rw [List.length_take] at hi
      rw [List.getElem_take]
      have h0 : 0 < posV x S S.length := by omega
      have hs := pos_stop x S S.length h0
      rw [getD_at (by omega)] at hs
      have hlast : ltV (S[posV x S S.length - 1]'(by omega)) x = true := by
        cases e : ltV (S[posV x S S.length - 1]'(by omega)) x with
        | true => rfl
        | false => exact absurd ⟨h0, by rw [getD_at (by omega)]; exact lt_total e hs⟩ hne
      by_cases e : i = posV x S S.length - 1
      · subst e; exact hlast
      · exact lt_trans (strict_get h (show i < posV x S S.length - 1 by omega) (by omega)) hlast
    have hhigh : ∀ y ∈ S.drop (posV x S S.length), ltV x y = true := by
      intro y hy
      obtain ⟨i, hi, rfl⟩ := List.getElem_of_mem hy
      rw [List.length_drop] at hi
      rw [List.getElem_drop]
      have := pos_less x S S.length (posV x S S.length + i) (by omega) (by omega)
      rwa [getD_at (by omega)] at this
    unfold Strict
    rw [List.pairwise_append, List.pairwise_append]
    refine ⟨⟨h.sublist (List.take_sublist _ _), by simp, fun a ha b hb => ?_⟩, h.sublist (List.drop_sublist _ _), fun a ha b hb => ?_⟩
    · rw [List.mem_singleton.1 hb]; exact hlow a ha
    · rcases List.mem_append.1 ha with h1 | h1
      · exact lt_trans (hlow a h1) (hhigh b hb)
      · rw [List.mem_singleton.1 h1]; exact hhigh b hb
def refV (R : List (List Int)) : List (List Int) := R.foldl insV []
theorem ref_snoc (R : List (List Int)) (x : List Int) : refV (R ++ [x]) = insV (refV R) x := by unfold refV; rw [List.foldl_append]; rfl
theorem fold_ins : ∀ (R S : List (List Int)), Strict S → Strict (R.foldl insV S) ∧ ∀ y, y ∈ R.foldl insV S ↔ y ∈ S ∨ y ∈ R
  | [], S, h => ⟨h, fun y => by simp⟩
  | x :: R, S, h => by
    obtain ⟨h1, h2⟩ := fold_ins R (insV S x) (ins_strict h x)
    refine ⟨h1, fun y => ?_⟩
    rw [List.foldl_cons, h2, ins_mem, List.mem_cons, or_assoc]
theorem ref_sort (R : List (List Int)) : sortV R = refV R := by
  obtain ⟨h1, h2⟩ := fold_ins R [] List.Pairwise.nil
  exact sortV_is h1 fun y => by unfold refV; rw [h2]; simp
theorem ins_len (S : List (List Int)) (x : List Int) : (insV S x).length ≤ S.length + 1 := by
  unfold insV insAt
  have hp := pos_le x S S.length
  split
  · omega
  · simp; omega
theorem fold_len' : ∀ (R S : List (List Int)), (R.foldl insV S).length ≤ S.length + R.length
  | [], S => by simp
  | x :: R, S => by
    rw [List.foldl_cons]
    have := fold_len' R (insV S x)
    have h2 := ins_len S x
    simp; omega
theorem ref_len (R : List (List Int)) : (refV R).length ≤ R.length := by have := fold_len' R []; unfold refV; simpa using this
theorem ref_mem {R : List (List Int)} {y : List Int} : y ∈ refV R ↔ y ∈ R := by rw [← ref_sort, mem_sortV]
end Root
theorem take_ref {R : List (List Int)} {k : Nat} (h : k < R.length) : Root.refV (R.take (k + 1)) = Root.insV (Root.refV (R.take k)) (R.getD k zeroR) := by
  rw [List.take_add_one, ← Root.ref_snoc]; simp [List.getD, h]
theorem own_RL {w : World} {base n c : Nat} {A : Option Addr} {S : List (List Int)} (h : w.ownsRow base 23 32 (.slice A n c) n (S.map rootC).flatten) (hn : n ≤ 1000) (hl : S.length = n) (hok : ∀ r ∈ S, RootOk r) : RL w A n c S := by
  obtain ⟨A', c', e, hw, -⟩ := wide_own (by omega) h (by omega) (by simpa using hl) (fun x hx => by
    obtain ⟨r, hr, rfl⟩ := List.mem_map.1 hx
    exact ⟨rootC_len (hok r hr), root_one r⟩)
  obtain ⟨rfl, rfl⟩ : A = A' ∧ c = c' := by simpa using e
  exact ⟨hw, hok, by omega⟩
theorem RL.drop {w : World} {b off n c : Nat} {S : List (List Int)} (h : RL w (some ⟨b, off, none⟩) n c S) {d : Nat} (hd : d ≤ n) : RL w (some ⟨b, off + d * 32, none⟩) (n - d) (c - d) (S.drop d) := by
  have hl := h.len
  have hc := h.row.cap
  have hr := h.row.room
  have hb := h.bytes
  refine ⟨⟨by simp; omega, by omega, by omega, fun x hx => ?_, (fun e => by cases e), fun hn => ⟨b, off + d * 32, rfl, fun i hi => ?_⟩⟩, fun x hx => h.ok x (List.mem_of_mem_drop hx), by omega⟩
  · obtain ⟨r, hr, rfl⟩ := List.mem_map.1 hx
    exact ⟨rootC_len (h.ok r (List.mem_of_mem_drop hr)), root_one r⟩
  · obtain ⟨b', off', e, hcell⟩ := h.row.cells (by omega)
    obtain ⟨rfl, rfl⟩ : b = b' ∧ off = off' := by simpa using e
    have := hcell (d + i) (by omega)
    have e1 : ((S.drop d).map rootC).getD i [] = (S.map rootC).getD (d + i) [] := by simp [List.getD]
    rw [e1, show off + d * 32 + i * 32 = off + (d + i) * 32 by omega]
    exact this
theorem own_take {w : World} {base n c : Nat} {A : Option Addr} {e : TypeId} {S : List (List Int)} (h : w.ownsRow base e 32 (.slice A n c) n (S.map rootC).flatten) (hok : ∀ r ∈ S, RootOk r) (hl : S.length = n) {p : Nat} (hp : p ≤ n) : w.ownsRow base e 32 (.slice A p c) p ((S.take p).map rootC).flatten := by
  have hS : ∀ x ∈ (S.take p).map rootC, x.length = 32 := fun x hx => by
    obtain ⟨r, hr, rfl⟩ := List.mem_map.1 hx
    exact rootC_len (hok r (List.mem_of_mem_take hr))
  have hL : ((S.take p).map rootC).flatten.length = p * 32 := by rw [flat_len hS]; simp; omega
  refine ⟨hL, ?_⟩
  rcases h.2 with ⟨e1, h0⟩ | ⟨g, cap, cur, e1, hb, hg, hc, hm, hs, ht⟩
  · obtain ⟨rfl, rfl, rfl⟩ : A = none ∧ n = 0 ∧ c = 0 := by simpa using e1
    obtain rfl : p = 0 := by omega
    exact .inl ⟨rfl, rfl⟩
  · obtain ⟨rfl, rfl⟩ : A = some ⟨g, 0, none⟩ ∧ c = cap := by simpa using e1
    refine .inr ⟨g, c, cur, rfl, hb, hg, by omega, hm, hs, ?_⟩
    have e2 : (S.map rootC).flatten = ((S.take p).map rootC).flatten ++ ((S.drop p).map rootC).flatten := by
      rw [← List.flatten_append, ← List.map_append, List.take_append_drop]
    rw [e2] at ht
    have := congrArg (List.take (p * 32)) ht
    rw [List.take_take, Nat.min_eq_left (by omega), List.take_append_of_le_length (by omega), List.take_of_length_le (l := ((S.take p).map rootC).flatten) (by omega)] at this
    exact this
end Go.Proofs.Ytamibbcdklpncaa
