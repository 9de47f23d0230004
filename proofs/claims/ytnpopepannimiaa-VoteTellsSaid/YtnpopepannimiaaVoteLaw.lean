/- Laws of votes, no program in sight. -/
import Derived.Test.YtnpopepannimiaaVoteAwake
namespace Go.Proofs.Ytnpopepannimiaa
open Go.RowKit Go.WideShapes Go.ChangeShapes
set_option linter.unusedVariables false
set_option linter.unusedSimpArgs false

theorem getD_set (LS : List Lat) (k : Nat) (x : Lat) (i : Nat) (hk : k < LS.length) : (LS.set k x).getD i Lat.none = if i = k then x else LS.getD i Lat.none := by
  by_cases h : i = k
  · subst h; simp [List.getD, hk]
  · simp [List.getD, List.getElem?_set, h, Ne.symm h]
theorem bad_none (LS : List Lat) (out k : Nat) (h : LS.getD k Lat.none = Lat.none) : badAt LS out k = false := by
  unfold badAt; rw [h]; simp [Lat.eqb_iff.2 rfl]
theorem bad_new (LS : List Lat) (out k : Nat) (h : (LS.getD k Lat.none).has = true) (g : out.testBit k = false) : badAt LS out k = false := by
  unfold badAt; rw [h, g]; simp
theorem may_new {n : Nat} (h1 : 0 < n) (h8 : n ≤ 8) : mayV (List.replicate n Lat.none) 0 = true := by
  refine mayV_iff.2 ⟨by simpa using h1, by simpa using h8, Nat.two_pow_pos _, fun i hi => bad_none _ _ _ ?_⟩
  rw [List.length_replicate] at hi
  simp [List.getD, hi]
theorem or_bit (o k i : Nat) : (o ||| 2 ^ k).testBit i = (o.testBit i || decide (k = i)) := by rw [Nat.testBit_or, Nat.testBit_two_pow]
section
variable {LS : List Lat} {o k : Nat} {r : List Int} {e : Nat}
theorem put_in (hm : mayV LS o = true) (hk : k < LS.length) : putV LS o k r e =
    if howV (LS.getD k Lat.none) (o.testBit k) r e = 0 then (LS.set k ⟨true, r, e⟩, o, 1, 0)
    else if howV (LS.getD k Lat.none) (o.testBit k) r e = 2 then (LS.set k Lat.none, o ||| 2 ^ k, 2, 0) else (LS, o, 0, 0) := by
  unfold putV
  rw [if_neg (by simp [hm]), if_neg (by omega)]
  rfl
theorem how0_out {x : Lat} {b : Bool} (h : howV x b r e = 0) : b = false := by
  cases b with
  | false => rfl
  | true => simp [howV] at h
theorem how2_out {x : Lat} {b : Bool} (h : howV x b r e = 2) : b = false := by
  cases b with
  | false => rfl
  | true => simp [howV] at h
theorem may_taken (hm : mayV LS o = true) (hk : k < LS.length) (hb : o.testBit k = false) : mayV (LS.set k ⟨true, r, e⟩) o = true := by
  obtain ⟨h1, h2, h3, h4⟩ := mayV_iff.1 hm
  refine mayV_iff.2 ⟨by simpa using h1, by simpa using h2, by simpa using h3, fun i hi => ?_⟩
  rw [List.length_set] at hi
  by_cases hik : i = k
  · subst hik
    exact bad_new _ _ _ (by rw [getD_set _ _ _ _ hk, if_pos rfl]) hb
  · have := h4 i hi
    unfold badAt at this ⊢
    rw [getD_set _ _ _ _ hk, if_neg hik]
    exact this
theorem may_twice (hm : mayV LS o = true) (hk : k < LS.length) : mayV (LS.set k Lat.none) (o ||| 2 ^ k) = true := by
  obtain ⟨h1, h2, h3, h4⟩ := mayV_iff.1 hm
  refine mayV_iff.2 ⟨by simpa using h1, by simpa using h2, ?_, fun i hi => ?_⟩
  · rw [List.length_set]
    exact Nat.or_lt_two_pow h3 (Nat.pow_lt_pow_right (by omega) hk)
  · rw [List.length_set] at hi
    by_cases hik : i = k
    · subst hik
      exact bad_none _ _ _ (by rw [getD_set _ _ _ _ hk, if_pos rfl])
    · have := h4 i hi
      unfold badAt at this ⊢
      rw [getD_set _ _ _ _ hk, if_neg hik, or_bit, decide_eq_false (Ne.symm hik), Bool.or_false]
      exact this
theorem may_put (hm : mayV LS o = true) (hk : k < LS.length) : mayV (putV LS o k r e).1 (putV LS o k r e).2.1 = true := by
  rw [put_in hm hk]
  split
  · next h => exact may_taken hm hk (how0_out h)
  · split
    · exact may_twice hm hk
    · exact hm
theorem err_put (hm : mayV LS o = true) (hk : k < LS.length) : (putV LS o k r e).2.2.2 = 0 := by
  rw [put_in hm hk]
  split
  · rfl
  · split <;> rfl
theorem len_put (hm : mayV LS o = true) (hk : k < LS.length) : (putV LS o k r e).1.length = LS.length := by
  rw [put_in hm hk]
  split
  · simp
  · split <;> simp
/-- Put again it is ignored. -/
theorem put_put (hm : mayV LS o = true) (hk : k < LS.length) : putV (putV LS o k r e).1 (putV LS o k r e).2.1 k r e = ((putV LS o k r e).1, (putV LS o k r e).2.1, 0, 0) := by
  have hm' := may_put (r := r) (e := e) hm hk
  rw [put_in hm' (by rw [len_put hm hk]; exact hk)]
  rw [put_in hm hk] at hm' ⊢
  by_cases h0 : howV (LS.getD k Lat.none) (o.testBit k) r e = 0
  · rw [if_pos h0] at hm' ⊢
    have hb := how0_out h0
    have e1 : howV ((LS.set k ⟨true, r, e⟩).getD k Lat.none) (o.testBit k) r e = 1 := by
      rw [getD_set _ _ _ _ hk, if_pos rfl, hb]; simp [howV]
    simp only [e1]; rfl
  · rw [if_neg h0] at hm' ⊢
    by_cases h2 : howV (LS.getD k Lat.none) (o.testBit k) r e = 2
    · rw [if_pos h2] at hm' ⊢
      have e1 : howV ((LS.set k Lat.none).getD k Lat.none) ((o ||| 2 ^ k).testBit k) r e = 3 := by
        rw [or_bit]; simp [howV]
      simp only [e1]; rfl
    · rw [if_neg h2] at hm' ⊢
      simp only [h0, h2, if_false]
theorem put_other (hm : mayV LS o = true) (hk : k < LS.length) {i : Nat} (hi : i ≠ k) : (putV LS o k r e).1.getD i Lat.none = LS.getD i Lat.none := by
  rw [put_in hm hk]
  split
  · rw [getD_set _ _ _ _ hk, if_neg hi]
  · split
    · rw [getD_set _ _ _ _ hk, if_neg hi]
    · rfl
theorem put_ignored (hm : mayV LS o = true) (hk : k < LS.length) (h : (putV LS o k r e).2.2.1 = 0) : (putV LS o k r e).1 = LS ∧ (putV LS o k r e).2.1 = o := by
  rw [put_in hm hk] at h ⊢
  split at h
  · simp at h
  · split at h
    · simp at h
    · next h0 h2 => rw [if_neg h0, if_neg h2]; exact ⟨rfl, rfl⟩
theorem put_kind (hm : mayV LS o = true) (hk : k < LS.length) : (putV LS o k r e).2.2.1 = 0 ∨ (putV LS o k r e).2.2.1 = 1 ∨ (putV LS o k r e).2.2.1 = 2 := by
  rw [put_in hm hk]
  split
  · exact .inr (.inl rfl)
  · split
    · exact .inr (.inr rfl)
    · exact .inl rfl
theorem out_put (ho : o < 18446744073709551616) (hm : mayV LS o = true) (hk : k < LS.length) : (putV LS o k r e).2.1 < 18446744073709551616 := by
  obtain ⟨h1, h2, h3, _⟩ := mayV_iff.1 (may_put (r := r) (e := e) hm hk)
  have : (2 : Nat) ^ (putV LS o k r e).1.length ≤ 2 ^ 8 := Nat.pow_le_pow_right (by omega) h2
  omega
/-- The first one that is put. -/
theorem put_first (hm : mayV LS o = true) (hk : k < LS.length) (hb : o.testBit k = false) (hh : (LS.getD k Lat.none).has = false) : putV LS o k r e = (LS.set k ⟨true, r, e⟩, o, 1, 0) := by
  rw [put_in hm hk, if_pos]
  unfold howV
  rw [hb, hh]; rfl
end
end Go.Proofs.Ytnpopepannimiaa
