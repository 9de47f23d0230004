/- NumParts: a part that is two thirds is one third; a greater one is, too; of what is left of two thirds no two thirds are, unless the whole is 0; for every input. -/
import Derived.Test.YthonlbimdbdfgaaNumRef
namespace Go.Proofs.Ythonlbimdbdfgaa
open Go.RowKit Go.WideShapes Go.ChangeShapes
set_option linter.unusedVariables false




theorem Num.most_some {a c : Nat} (h : Num.most a c = true) : Num.some a c = true := by
  unfold Num.most at h
  have := of_decide_eq_true h
  exact decide_eq_true (by omega)
theorem Num.most_le {a b c : Nat} (h : Num.most a c = true) (hab : a ≤ b) : Num.most b c = true := by
  unfold Num.most at h
  have := of_decide_eq_true h
  exact decide_eq_true (by omega)
theorem Num.some_le {a b c : Nat} (h : Num.some a c = true) (hab : a ≤ b) : Num.some b c = true := by
  unfold Num.some at h
  have := of_decide_eq_true h
  exact decide_eq_true (by omega)
theorem Num.most_rest {a c : Nat} (h : Num.most a c = true) (hac : a ≤ c) (hc : 0 < c) : Num.most (c - a) c = false := by
  unfold Num.most at h
  have := of_decide_eq_true h
  exact decide_eq_false (by omega)
set_option maxHeartbeats 4000000 in
theorem NumParts_walk (a : Nat) (ha : a < 18446744073709551616) (b : Nat) (hb : b < 18446744073709551616) (c : Nat) (hc : c < 18446744073709551616) (w : World) :
    Calls Try.prog 4 #[.int .u64 a, .int .u64 b, .int .u64 c] w fun e w' => e = .returned (.bool true) ∧ Ext w w' := by
  by_cases hab : a ≤ b
  · cases h1 : Num.most a c with
    | false =>
      cases h2 : Num.some a c with
      | false =>
        go_enter Try.func4, Try.ntmps4
        go_wp2_with (first | (go_at_call 11; refine (awake_any _).mono ?_; rintro e w' ⟨rfl, hx⟩) | (go_at_call 12; refine (most_any _ _ (by omega) (by omega) _).mono ?_; rintro e w' ⟨rfl, hx⟩) | (go_at_call 13; refine (some_any _ _ (by omega) (by omega) _).mono ?_; rintro e w' ⟨rfl, hx⟩))
        all_goals
          go_ret
          exact ⟨rfl, (by repeat (first | assumption | exact Ext.refl _ | refine Ext.alloc ?_ _ | refine Ext.drew ?_ | refine Ext.drewN ?_ _ | refine Ext.trans (by assumption) ?_))⟩
      | true =>
        have h3 := Num.some_le h2 hab
        go_enter Try.func4, Try.ntmps4
        go_wp2_with (first | (go_at_call 11; refine (awake_any _).mono ?_; rintro e w' ⟨rfl, hx⟩) | (go_at_call 12; refine (most_any _ _ (by omega) (by omega) _).mono ?_; rintro e w' ⟨rfl, hx⟩) | (go_at_call 13; refine (some_any _ _ (by omega) (by omega) _).mono ?_; rintro e w' ⟨rfl, hx⟩))
        all_goals
          go_ret
          exact ⟨rfl, (by repeat (first | assumption | exact Ext.refl _ | refine Ext.alloc ?_ _ | refine Ext.drew ?_ | refine Ext.drewN ?_ _ | refine Ext.trans (by assumption) ?_))⟩
    | true =>
      have h2 := Num.most_some h1
      have h3 := Num.most_le h1 hab
      have h4 := Num.some_le h2 hab
      by_cases hac : c < a
      · go_enter Try.func4, Try.ntmps4
        go_wp2_with (first | (go_at_call 11; refine (awake_any _).mono ?_; rintro e w' ⟨rfl, hx⟩) | (go_at_call 12; refine (most_any _ _ (by omega) (by omega) _).mono ?_; rintro e w' ⟨rfl, hx⟩) | (go_at_call 13; refine (some_any _ _ (by omega) (by omega) _).mono ?_; rintro e w' ⟨rfl, hx⟩))
        all_goals
          go_ret
          exact ⟨rfl, (by repeat (first | assumption | exact Ext.refl _ | refine Ext.alloc ?_ _ | refine Ext.drew ?_ | refine Ext.drewN ?_ _ | refine Ext.trans (by assumption) ?_))⟩
      · by_cases hz : c = 0
        · subst hz
          go_enter Try.func4, Try.ntmps4
          go_wp2_with (first | (go_at_call 11; refine (awake_any _).mono ?_; rintro e w' ⟨rfl, hx⟩) | (go_at_call 12; refine (most_any _ _ (by omega) (by omega) _).mono ?_; rintro e w' ⟨rfl, hx⟩) | (go_at_call 13; refine (some_any _ _ (by omega) (by omega) _).mono ?_; rintro e w' ⟨rfl, hx⟩))
          all_goals
            go_ret
            exact ⟨rfl, (by repeat (first | assumption | exact Ext.refl _ | refine Ext.alloc ?_ _ | refine Ext.drew ?_ | refine Ext.drewN ?_ _ | refine Ext.trans (by assumption) ?_))⟩
        · have h5 := Num.most_rest h1 (by omega) (by omega)
          have hz1 : ((c : Int) == 0) = false := by rw [beq_eq_false_iff_ne]; omega
          have s1 : ∀ W, Calls Try.prog 12 #[.int .u64 ((c : Int) - a), .int .u64 c] W fun e w' => e = .returned (.bool false) ∧ Ext W w' := by
            intro W
            have e : (c : Int) - a = ((c - a : Nat) : Int) := by omega
            rw [e, ← h5]
            exact most_any _ _ (by omega) hc W
          have S1 := Lib.hid s1
          clear s1 h5
          go_enter Try.func4, Try.ntmps4
          go_wp2_with (first | (go_at_call 11; refine (awake_any _).mono ?_; rintro e w' ⟨rfl, hx⟩) | (go_at_call 12; (with_reducible refine (S1.out _).mono ?_); rintro e w' ⟨rfl, hx⟩) | (go_at_call 12; refine (most_any _ _ (by omega) (by omega) _).mono ?_; rintro e w' ⟨rfl, hx⟩) | (go_at_call 13; refine (some_any _ _ (by omega) (by omega) _).mono ?_; rintro e w' ⟨rfl, hx⟩))
          all_goals
            go_ret
            exact ⟨rfl, (by repeat (first | assumption | exact Ext.refl _ | refine Ext.alloc ?_ _ | refine Ext.drew ?_ | refine Ext.drewN ?_ _ | refine Ext.trans (by assumption) ?_))⟩
  · cases h1 : Num.most a c with
    | false =>
      go_enter Try.func4, Try.ntmps4
      go_wp2_with (first | (go_at_call 11; refine (awake_any _).mono ?_; rintro e w' ⟨rfl, hx⟩) | (go_at_call 12; refine (most_any _ _ (by omega) (by omega) _).mono ?_; rintro e w' ⟨rfl, hx⟩) | (go_at_call 13; refine (some_any _ _ (by omega) (by omega) _).mono ?_; rintro e w' ⟨rfl, hx⟩))
      all_goals
        go_ret
        exact ⟨rfl, (by repeat (first | assumption | exact Ext.refl _ | refine Ext.alloc ?_ _ | refine Ext.drew ?_ | refine Ext.drewN ?_ _ | refine Ext.trans (by assumption) ?_))⟩
    | true =>
      have h2 := Num.most_some h1
      by_cases hac : c < a
      · go_enter Try.func4, Try.ntmps4
        go_wp2_with (first | (go_at_call 11; refine (awake_any _).mono ?_; rintro e w' ⟨rfl, hx⟩) | (go_at_call 12; refine (most_any _ _ (by omega) (by omega) _).mono ?_; rintro e w' ⟨rfl, hx⟩) | (go_at_call 13; refine (some_any _ _ (by omega) (by omega) _).mono ?_; rintro e w' ⟨rfl, hx⟩))
        all_goals
          go_ret
          exact ⟨rfl, (by repeat (first | assumption | exact Ext.refl _ | refine Ext.alloc ?_ _ | refine Ext.drew ?_ | refine Ext.drewN ?_ _ | refine Ext.trans (by assumption) ?_))⟩
      · by_cases hz : c = 0
        · subst hz
          go_enter Try.func4, Try.ntmps4
          go_wp2_with (first | (go_at_call 11; refine (awake_any _).mono ?_; rintro e w' ⟨rfl, hx⟩) | (go_at_call 12; refine (most_any _ _ (by omega) (by omega) _).mono ?_; rintro e w' ⟨rfl, hx⟩) | (go_at_call 13; refine (some_any _ _ (by omega) (by omega) _).mono ?_; rintro e w' ⟨rfl, hx⟩))
          all_goals
            go_ret
            exact ⟨rfl, (by repeat (first | assumption | exact Ext.refl _ | refine Ext.alloc ?_ _ | refine Ext.drew ?_ | refine Ext.drewN ?_ _ | refine Ext.trans (by assumption) ?_))⟩
        · have h5 := Num.most_rest h1 (by omega) (by omega)
          have hz1 : ((c : Int) == 0) = false := by rw [beq_eq_false_iff_ne]; omega
          have s1 : ∀ W, Calls Try.prog 12 #[.int .u64 ((c : Int) - a), .int .u64 c] W fun e w' => e = .returned (.bool false) ∧ Ext W w' := by
            intro W
            have e : (c : Int) - a = ((c - a : Nat) : Int) := by omega
            rw [e, ← h5]
            exact most_any _ _ (by omega) hc W
          have S1 := Lib.hid s1
          clear s1 h5
          go_enter Try.func4, Try.ntmps4
          go_wp2_with (first | (go_at_call 11; refine (awake_any _).mono ?_; rintro e w' ⟨rfl, hx⟩) | (go_at_call 12; (with_reducible refine (S1.out _).mono ?_); rintro e w' ⟨rfl, hx⟩) | (go_at_call 12; refine (most_any _ _ (by omega) (by omega) _).mono ?_; rintro e w' ⟨rfl, hx⟩) | (go_at_call 13; refine (some_any _ _ (by omega) (by omega) _).mono ?_; rintro e w' ⟨rfl, hx⟩))
          all_goals
            go_ret
            exact ⟨rfl, (by repeat (first | assumption | exact Ext.refl _ | refine Ext.alloc ?_ _ | refine Ext.drew ?_ | refine Ext.drewN ?_ _ | refine Ext.trans (by assumption) ?_))⟩
set_option maxRecDepth 100000 in
theorem NumParts_lifted (os : Os) (started : os.Started) (H : Type) (enc : TypeId × Value → H) :
    ReturnsInHanded {} Try.checked os 4 .any (Rows.numPartsSpec.pre6 enc Try.prog Try.f4 Rows.numPartsRow.domain false) (Rows.numPartsSpec.post enc Try.prog Try.f4 false true false false) := by
  refine returnsInHanded_of_change_sized (C := Try.checked) own started (by kernel_rfl) Try.func4
    (ChangeSpec.witness6 (enc := enc) (C := Try.checked) false ⟨#[], #[.int .u64 0, .int .u64 0, .int .u64 0], []⟩ 8 (by kernel_rfl) (by kernel_rfl) (by kernel_rfl) (by kernel_rfl)) ?_
  intro W base args ds gs before hval0 hW _hcnd hsz0 _
  have hval : ∀ (j : Nat) t v, Try.f4.params[j]? = some t → args[j]? = some v → Value.okWide Try.prog W .any base t v := hval0
  have hsz : (DataW.weightsEach Try.prog (Try.f4.params.toList ++ Rows.numPartsSpec.plain.varTypes Try.prog) (ds ++ gs)).all (· ≤ reachBytes) = true := hsz0
  have hW' := hW
  obtain ⟨p, q, hA0, hV, rfl, hfz, hnd⟩ := hW
  have hA : DataW.TrodAll enc Try.prog W 0 (fun _ => true) true Try.f4.params.toList args.toList ds p := hA0
  rw [Try.params4] at hA hval hsz
  obtain ⟨v0, vs0, d0, ds0, p0, q0, hargs, rfl, rfl, h0, r0⟩ := trodAll_cons hA
  obtain ⟨v1, vs1, d1, ds1, p1, q1, rfl, rfl, rfl, h1, r1⟩ := trodAll_cons r0
  obtain ⟨v2, vs2, d2, ds2, p2, q2, rfl, rfl, rfl, h2, r2⟩ := trodAll_cons r1
  obtain ⟨rfl, rfl, rfl⟩ := trodAll_nil r2
  obtain rfl : args = #[v0, v1, v2] := by cases args; simp_all
  obtain ⟨rfl, rfl⟩ := trodVars_none hV
  have h0k := h0
  have h1k := h1
  have h2k := h2
  have hlt0 : ∀ x ∈ p0, x.block < W.heap.size := fun x hx => by have := hW'.lt x (by simp [hx]); simpa using this
  have hlt1 : ∀ x ∈ p1, x.block < W.heap.size := fun x hx => by have := hW'.lt x (by simp [hx]); simpa using this
  have hlt2 : ∀ x ∈ p2, x.block < W.heap.size := fun x hx => by have := hW'.lt x (by simp [hx]); simpa using this
  obtain ⟨a, rfl, ha⟩ := open_U64 Try.underlying22 (hval 0 22 v0 rfl rfl) h0
  obtain ⟨b, rfl, hb⟩ := open_U64 Try.underlying22 (hval 1 22 v1 rfl rfl) h1
  obtain ⟨c, rfl, hc⟩ := open_U64 Try.underlying22 (hval 2 22 v2 rfl rfl) h2
  clear hA0 hval0
  simp only [List.append_nil] at hW'
  refine (NumParts_walk a ha b hb c hc W).mono fun e W' ⟨he, hg⟩ => ?_
  subst he
  exact ⟨_, rfl, post_law (pa := p0 ++ (p1 ++ (p2 ++ []))) (pv := []) hW' (fun _ _ _ => (trodAll_cons_mk (shut_bool Try.underlying4 _) trodAll_mk0))
    (trodAll_cons_mk (Below.trod laidOut (by kernel_rfl) (of_decide_eq_true (by kernel_rfl)) h0k hg.out hlt0) (trodAll_cons_mk (Below.trod laidOut (by kernel_rfl) (of_decide_eq_true (by kernel_rfl)) h1k hg.out hlt1) (trodAll_cons_mk (Below.trod laidOut (by kernel_rfl) (of_decide_eq_true (by kernel_rfl)) h2k hg.out hlt2) trodAll_mk0))) rfl (by simp) hg⟩
theorem NumParts_holds : Rows.NumPartsSaid :=
  OpenClaim.holds_of_wide 4 Try.f4 rfl rfl rfl rfl rfl rfl rfl ⟨rfl, rfl, rfl, rfl, rfl⟩ rfl rfl rfl rfl rfl (by kernel_rfl) Try.func4 (by kernel_rfl)
    (of_decide_eq_true (by kernel_rfl)) (by unfold Func.isWrapper; first | (rw [if_pos (by decide +kernel)]; kernel_rfl) | (rw [if_neg (by decide +kernel)]; exact ⟨rfl, rfl⟩))
    (fun os started H enc _ => NumParts_lifted os started H enc)
#print axioms NumParts_holds
end Go.Proofs.Ythonlbimdbdfgaa
