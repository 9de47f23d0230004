/- Laws of weights, no program in sight. -/
import Derived.Test.YtjhhfininnlkfaaWeightAwake
namespace Go.Proofs.Ytjhhfininnlkfaa
open Go.RowKit Go.WideShapes Go.ChangeShapes
set_option linter.unusedVariables false
set_option linter.unusedSimpArgs false
namespace Weight
def zeros (n : Nat) : List Int := List.replicate n 0
theorem zeros_len (n : Nat) : (zeros n).length = n := by simp [zeros]
theorem at_zeros (n k : Nat) : at' (zeros n) k = 0 := by
  unfold at' nth zeros
  by_cases h : k < n
  · simp [List.getD, h]
  · simp [List.getD, h]
theorem zeros_wf (n : Nat) : ∀ x ∈ zeros n, (Lit.int .u64 x).wf = true := by
  intro x hx
  rw [(List.mem_replicate.1 hx).2]; decide
theorem S_congr {T : List Node} {o p : Nat → Nat} (h : ∀ k, k < T.length → o k = p k) (i : Nat) : S T o i = S T p i := sum_congr (fun k hk => by rw [h k hk])
theorem S_zeros (T : List Node) (n i : Nat) : S T (at' (zeros n)) i = 0 := sum_zero (fun k _ => by rw [at_zeros]; split <;> rfl)
theorem subV_zeros {T : List Node} (hm : Tree.mayV T = true) : subV T (zeros T.length) = some (zeros T.length) := by
  have ht : total T (at' (zeros T.length)) = 0 := sum_zero (fun k _ => at_zeros _ k)
  unfold subV
  rw [if_pos ⟨hm, zeros_len _, by omega⟩]
  congr 1
  refine nth_ext (by rw [listOf_len, zeros_len]) (fun i hi => ?_)
  rw [listOf_len] at hi
  rw [nth_listOf hi, S_zeros]
  unfold nth zeros
  simp [List.getD, hi]
theorem subV_no {T : List Node} (hm : Tree.mayV T = false) (l : List Int) : subV T l = none := by unfold subV; rw [hm]; simp
theorem passV_no {T : List Node} (hm : Tree.mayV T = false) (w p m : List Int) : passV T w p m = none := by unfold passV; rw [subV_no hm]
theorem passV_len {T : List Node} {w p m r : List Int} (h : passV T w p m = some r) : w.length = T.length ∧ r.length = T.length := by
  unfold passV at h
  cases hp : subV T p with
  | none => rw [hp] at h; cases h
  | some p' =>
    cases hm : subV T m with
    | none => rw [hp, hm] at h; cases h
    | some m' =>
      rw [hp, hm] at h
      simp only at h
      split at h
      · rename_i hc
        obtain rfl := Option.some.inj h
        rw [listOf_len, hc.1, subV_len hp]
        exact ⟨rfl, rfl⟩
      · cases h
/-- Where there are weights, there they are. -/
theorem passV_some {T : List Node} {w p m r : List Int} : passV T w p m = some r ↔ ∃ p' m', subV T p = some p' ∧ subV T m = some m' ∧ w.length = T.length ∧ (∀ i, i < T.length → withB (at' w i) (at' p' i) (at' m' i) = true) ∧ r = listOf T.length (fun i => at' w i + at' p' i - at' m' i) := by
  constructor
  · intro h
    have hl := passV_len h
    unfold passV at h
    cases hp : subV T p with
    | none => rw [hp] at h; cases h
    | some p' =>
      cases hm : subV T m with
      | none => rw [hp, hm] at h; cases h
      | some m' =>
        rw [hp, hm] at h
        simp only at h
        split at h
        · rename_i hc
          refine ⟨p', m', rfl, rfl, hl.1, fun i hi => ?_, ?_⟩
          · have := List.all_eq_true.1 hc.2 i (by rw [hl.1]; exact List.mem_range.2 hi)
            exact this
          · rw [← Option.some.inj h, hl.1]
        · cases h
  · rintro ⟨p', m', hp, hm, hw, hall, rfl⟩
    unfold passV
    rw [hp, hm]
    simp only
    have hf : fitsAll w p' m' = true := by
      unfold fitsAll
      rw [List.all_eq_true]
      intro i hi
      exact hall i (by rw [hw] at hi; exact List.mem_range.1 hi)
    rw [if_pos ⟨by rw [hw, subV_len hp], hf⟩, hw]
theorem listOf_wf {n : Nat} {f : Nat → Nat} (h : ∀ k, k < n → f k < 18446744073709551616) : ∀ x ∈ listOf n f, (Lit.int .u64 x).wf = true := by
  intro x hx
  unfold listOf at hx
  obtain ⟨j, hj, rfl⟩ := List.mem_map.1 hx
  have := h j (List.mem_range.1 hj)
  simp [Lit.wf, IntKind.min, IntKind.max, IntKind.signed, IntKind.bits]; omega
theorem at_lt {l : List Int} (h : ∀ x ∈ l, (Lit.int .u64 x).wf = true) (k : Nat) : at' l k < 18446744073709551616 := by
  unfold at'
  by_cases hk : k < l.length
  · have := bounds_u64 (h _ (List.getElem_mem hk))
    rw [nth_eq hk]; omega
  · unfold nth
    simp [List.getD, hk]
theorem listOf_self {n : Nat} {l : List Int} (hl : l.length = n) (h : ∀ x ∈ l, (Lit.int .u64 x).wf = true) : listOf n (at' l) = l := by
  subst hl
  exact listOf_at (fun x hx => (bounds_u64 (h x hx)).1)
theorem pass_zero {T : List Node} (hm : Tree.mayV T = true) {w : List Int} (hw : w.length = T.length) (hwf : ∀ x ∈ w, (Lit.int .u64 x).wf = true) : passV T w (zeros T.length) (zeros T.length) = some w := by
  refine passV_some.2 ⟨_, _, subV_zeros hm, subV_zeros hm, hw, fun i _ => ?_, ?_⟩
  · have := at_lt hwf i
    unfold withB
    rw [at_zeros]
    exact decide_eq_true ⟨by omega, by omega⟩
  · rw [listOf_congr (g := at' w) (fun k _ => by rw [at_zeros]; rfl), listOf_self hw hwf]
theorem pass_back {T : List Node} (hm : Tree.mayV T = true) {w plus P : List Int} (hwf : ∀ x ∈ w, (Lit.int .u64 x).wf = true) (h : passV T w plus (zeros T.length) = some P) : passV T P (zeros T.length) plus = some w := by
  obtain ⟨p', m', hp, hm', hw, hall, rfl⟩ := passV_some.1 h
  obtain rfl := Option.some.inj ((subV_zeros hm).symm.trans hm')
  refine passV_some.2 ⟨_, _, subV_zeros hm, hp, listOf_len _ _, fun i hi => ?_, ?_⟩
  · have := of_decide_eq_true (hall i hi)
    rw [at_listOf hi, at_zeros] at *
    unfold withB
    refine decide_eq_true ⟨by omega, ?_⟩
    have := at_lt hwf i
    omega
  · rw [listOf_congr (g := at' w) (fun k hk => by rw [at_listOf hk, at_zeros]; omega), listOf_self hw hwf]
theorem pass_steps {T : List Node} (hm : Tree.mayV T = true) {w plus minus a : List Int} (h : passV T w plus (zeros T.length) = some a) : passV T a (zeros T.length) minus = passV T w plus minus := by
  obtain ⟨p', z', hp, hz, hw, hall, rfl⟩ := passV_some.1 h
  obtain rfl := Option.some.inj ((subV_zeros hm).symm.trans hz)
  apply Option.ext
  intro r
  rw [passV_some, passV_some]
  constructor
  · rintro ⟨z2, m', hz2, hm2, _, hal, rfl⟩
    obtain rfl := Option.some.inj ((subV_zeros hm).symm.trans hz2)
    refine ⟨p', m', hp, hm2, hw, fun i hi => ?_, listOf_congr (fun k hk => by rw [at_listOf hk, at_zeros]; rfl)⟩
    have h1 := of_decide_eq_true (hal i hi)
    rw [at_listOf hi, at_zeros] at h1
    exact decide_eq_true ⟨by omega, by omega⟩
  · rintro ⟨p2, m', hp2, hm2, _, hal, rfl⟩
    obtain rfl := Option.some.inj (hp.symm.trans hp2)
    refine ⟨_, m', subV_zeros hm, hm2, listOf_len _ _, fun i hi => ?_, listOf_congr (fun k hk => by rw [at_listOf hk, at_zeros]; rfl)⟩
    have h1 := of_decide_eq_true (hal i hi)
    have h2 := of_decide_eq_true (hall i hi)
    rw [at_zeros] at h2
    unfold withB
    rw [at_listOf hi, at_zeros]
    exact decide_eq_true ⟨by omega, by omega⟩
theorem passV_wf {T : List Node} {w p m r : List Int} (h : passV T w p m = some r) : ∀ x ∈ r, (Lit.int .u64 x).wf = true := by
  obtain ⟨p', m', _, _, _, hall, rfl⟩ := passV_some.1 h
  exact listOf_wf (fun k hk => (of_decide_eq_true (hall k hk)).2)
theorem passV_short {T : List Node} {w : List Int} (hw : w.length ≠ T.length) (p m : List Int) : passV T w p m = none := by
  cases h : passV T w p m with
  | none => rfl
  | some r => exact absurd (passV_len h).1 hw
end Weight
end Go.Proofs.Ytjhhfininnlkfaa
