/- Layer 14: the plain laws. -/
import Derived.Test.YtjhhfininnlkfaaDelta
import Derived.Test.YtjhhfininnlkfaaWeightLaw
namespace Go.Proofs.Ytjhhfininnlkfaa
open Go.RowKit Go.WideShapes Go.ChangeShapes
set_option linter.unusedVariables false
set_option linter.unusedSimpArgs false
namespace Delta
open Weight
def oneF (T : List Node) (v but : List Lat) (l : List Int) (p k : Nat) : Nat := if hasB T v but k = true ∧ plc T v k = p then at' l k else 0
theorem accL_pairs (T : List Node) (v but : List Lat) (l : List Int) (p : Nat) : ∀ n, accL l (pairs T v but n) p = sum n (oneF T v but l p) := by
  intro n
  induction n with
  | zero => rfl
  | succ n ih =>
    rw [sum_succ]
    unfold oneF
    cases h : hasB T v but n with
    | true =>
      rw [pairs_yes h, accL_snoc, ih]
      unfold oneF
      simp
    | false =>
      rw [pairs_no h, ih]
      unfold oneF
      simp
theorem ownF_sum (T : List Node) (v but : List Lat) (l : List Int) (p : Nat) : ownF T v but l p = sum v.length (oneF T v but l p) := accL_pairs T v but l p _
theorem newB_nil (v : List Lat) (k : Nat) : newB v [] k = (v.getD k Lat.none).has := by unfold newB; simp
theorem newB_in {v u : List Lat} {k : Nat} (h : k < u.length) : newB v u k = ((v.getD k Lat.none).has && !((u.getD k Lat.none).eqb (v.getD k Lat.none))) := by unfold newB; simp [h]
theorem one_balance {T : List Node} {v u : List Lat} {l : List Int} {p k : Nat} (hv : k < v.length) (hu : k < u.length) : oneF T u [] l p k + oneF T v u l p k = oneF T v [] l p k + oneF T u v l p k := by
  unfold oneF hasB plc
  rw [newB_nil, newB_nil, newB_in hu, newB_in hv]
  generalize v.getD k Lat.none = a
  generalize u.getD k Lat.none = b
  cases hq : b.eqb a with
  | true =>
    have e := Lat.eqb_iff.1 hq
    subst e
    simp [Lat.eqb_iff.2]
  | false =>
    have hq' : a.eqb b = false := by
      cases h : a.eqb b with
      | false => rfl
      | true =>
        have e := Lat.eqb_iff.1 h
        subst e
        rw [h] at hq
        cases hq
    rw [hq']
    simp
    omega
theorem balance {T : List Node} {v u : List Lat} {l : List Int} (hl : v.length = u.length) (p : Nat) : ownF T u [] l p + ownF T v u l p = ownF T v [] l p + ownF T u v l p := by
  rw [ownF_sum, ownF_sum, ownF_sum, ownF_sum, ← hl, ← sum_add, ← sum_add]
  exact sum_congr (fun k hk => one_balance hk (by omega))
theorem sum_bound {n c : Nat} {f : Nat → Nat} (h : ∀ k, k < n → f k ≤ c) : sum n f ≤ n * c := by
  induction n with
  | zero => exact Nat.zero_le _
  | succ n ih =>
    rw [sum_succ, Nat.succ_mul]
    have := ih (fun k hk => h k (by omega))
    have := h n (by omega)
    omega
theorem ownF_le {v : List Lat} {l : List Int} (h : Stake.overL l = false) (h8 : v.length ≤ 8) (T : List Node) (but : List Lat) (p : Nat) : ownF T v but l p ≤ 8796093022208 := by
  have := accL_le h (pairs T v but v.length) p
  have := pairs_len T v but v.length
  unfold ownF
  omega
theorem total_lt {T : List Node} {v but : List Lat} {l : List Int} (hm : Tree.mayV T = true) (h : Stake.overL l = false) (h8 : v.length ≤ 8) : total T (ownF T v but l) < 18446744073709551616 := by
  have h12 := Tree.len_le hm
  have := sum_bound (n := T.length) (fun k _ => ownF_le h h8 T but k)
  have : T.length * 8796093022208 ≤ 12 * 8796093022208 := Nat.mul_le_mul_right _ h12
  unfold total
  omega
theorem at_sumV {T : List Node} {v but : List Lat} {l : List Int} {k : Nat} (h : k < T.length) : at' (sumV T v but l) k = ownF T v but l k := at_listOf h
theorem S_sumV (T : List Node) (v but : List Lat) (l : List Int) (i : Nat) : S T (at' (sumV T v but l)) i = S T (ownF T v but l) i := S_congr (fun k hk => at_sumV hk) i
theorem sub_of {T : List Node} {v but : List Lat} {l : List Int} (hm : Tree.mayV T = true) (h : Stake.overL l = false) (h8 : v.length ≤ 8) : subV T (sumV T v but l) = some (listOf T.length (S T (ownF T v but l))) := by
  unfold subV
  have ht : total T (at' (sumV T v but l)) = total T (ownF T v but l) := sum_congr (fun k hk => at_sumV hk)
  rw [if_pos ⟨hm, sumV_len _ _ _ _, by rw [ht]; exact total_lt hm h h8⟩]
  exact congrArg some (listOf_congr (fun k _ => S_sumV T v but l k))
theorem fit_eight {T : List Node} {v : List Lat} {vo : Nat} {l : List Int} (h : fitV T v vo l = true) : Tree.mayV T = true ∧ Stake.overL l = false ∧ v.length ≤ 8 ∧ v.length = l.length := by
  obtain ⟨h1, h2, h3, h4⟩ := fitV_iff.1 h
  obtain ⟨s1, s2, s3⟩ := Stake.mayV_iff.1 h3
  exact ⟨h1, s3, by omega, h4⟩
theorem heavy_yes {T : List Node} {v : List Lat} {vo : Nat} {l : List Int} (h : fitV T v vo l = true) : heavyV T v vo l = some (listOf T.length (S T (ownF T v [] l))) := by
  obtain ⟨h1, h2, h3, _⟩ := fit_eight h
  unfold heavyV
  rw [if_pos h]
  exact sub_of h1 h2 h3
theorem heavy_no {T : List Node} {v : List Lat} {vo : Nat} {l : List Int} (h : fitV T v vo l = false) : heavyV T v vo l = none := by
  unfold heavyV
  rw [if_neg (by rw [h]; simp)]
theorem pass_law {T : List Node} {v u : List Lat} {vo uo : Nat} {l : List Int} (hv : fitV T v vo l = true) (hu : fitV T u uo l = true) : passV T (listOf T.length (S T (ownF T v [] l))) (sumV T u v l) (sumV T v u l) = some (listOf T.length (S T (ownF T u [] l))) := by
  obtain ⟨h1, h2, h3, h4⟩ := fit_eight hv
  obtain ⟨_, _, g3, g4⟩ := fit_eight hu
  have hb : ∀ i, S T (ownF T v [] l) i + S T (ownF T u v l) i = S T (ownF T u [] l) i + S T (ownF T v u l) i := fun i => by
    rw [← S_add, ← S_add]
    exact S_congr (fun k _ => (balance (h4.trans g4.symm) k).symm) i
  have hlt : ∀ i, S T (ownF T u [] l) i < 18446744073709551616 := fun i => Nat.lt_of_le_of_lt (S_le T _ i) (total_lt h1 h2 g3)
  refine passV_some.2 ⟨_, _, sub_of h1 h2 g3, sub_of h1 h2 h3, listOf_len _ _, fun i hi => ?_, listOf_congr fun i hi => ?_⟩
  · rw [at_listOf hi, at_listOf hi, at_listOf hi]
    unfold withB
    have := hb i
    have := hlt i
    exact decide_eq_true (by omega)
  · rw [at_listOf hi, at_listOf hi, at_listOf hi]
    have := hb i
    omega
end Delta
end Go.Proofs.Ytjhhfininnlkfaa
