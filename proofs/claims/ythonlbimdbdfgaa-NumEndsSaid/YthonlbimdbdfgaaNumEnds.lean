/- NumEnds: what stops at the end is no less than either, and the sum, if there is one; what stops at 0 no more than the one, and with the other one no less than it; for every input. -/
import Derived.Test.YthonlbimdbdfgaaNumRef
namespace Go.Proofs.Ythonlbimdbdfgaa
open Go.RowKit Go.WideShapes Go.ChangeShapes
set_option linter.unusedVariables false









theorem Num.up_ge (a b : Nat) (ha : a < M) (hb : b < M) : a ≤ Num.up a b ∧ b ≤ Num.up a b := by
  unfold Num.up M at *
  split <;> omega
theorem Num.up_down (a b : Nat) (ha : a < M) (hb : b < M) : a ≤ Num.up (Num.down a b) b := by
  unfold Num.up Num.down M at *
  split <;> omega
set_option maxHeartbeats 4000000 in
theorem NumEnds_walk (a : Nat) (ha : a < 18446744073709551616) (b : Nat) (hb : b < 18446744073709551616) (w : World) :
    Calls Try.prog 7 #[.int .u64 a, .int .u64 b] w fun e w' => e = .returned (.bool true) ∧ Ext w w' := by
  obtain ⟨g1, g2⟩ := Num.up_ge a b ha hb
  have g3 := Num.up_down a b ha hb
  have g4 : Num.down a b ≤ a := Nat.sub_le _ _
  have b1 : Num.down a b < 18446744073709551616 := Nat.lt_of_le_of_lt g4 ha
  by_cases hba : b < a
  · have g5 : 0 < Num.down a b := by unfold Num.down; omega
    cases h1 : Num.addB a b with
    | false =>
      have f1 : ((Num.up a b : Int) == (Num.addV a b : Nat)) = false := by
        unfold Num.addB at h1; have := of_decide_eq_false h1
        unfold Num.up Num.addV; rw [if_neg this, if_neg this]; rfl
      have f2 : ((Num.up a b : Int) == 0) = false := by
        unfold Num.addB at h1; have := of_decide_eq_false h1
        unfold Num.up; rw [if_neg this]; rfl
      go_enter Try.func7, Try.ntmps7
      go_wp2_with (first | (go_at_call 11; refine (awake_any _).mono ?_; rintro e w' ⟨rfl, hx⟩) | (go_at_call 14; refine (add_any _ _ (by omega) (by omega) _).mono ?_; rintro e w' ⟨rfl, hx⟩) | (go_at_call 15; refine (up_any _ _ (by omega) (by omega) _).mono ?_; rintro e w' ⟨rfl, hx⟩) | (go_at_call 16; refine (down_any _ _ (by omega) (by omega) _).mono ?_; rintro e w' ⟨rfl, hx⟩))
      all_goals
        go_ret
        exact ⟨rfl, (by repeat (first | assumption | exact Ext.refl _ | refine Ext.alloc ?_ _ | refine Ext.drew ?_ | refine Ext.drewN ?_ _ | refine Ext.trans (by assumption) ?_))⟩
    | true =>
      have f1 : ((Num.up a b : Int) == (Num.addV a b : Nat)) = true := by
        unfold Num.addB at h1; have := of_decide_eq_true h1
        unfold Num.up Num.addV; rw [if_pos this, if_pos this]; simp
      go_enter Try.func7, Try.ntmps7
      go_wp2_with (first | (go_at_call 11; refine (awake_any _).mono ?_; rintro e w' ⟨rfl, hx⟩) | (go_at_call 14; refine (add_any _ _ (by omega) (by omega) _).mono ?_; rintro e w' ⟨rfl, hx⟩) | (go_at_call 15; refine (up_any _ _ (by omega) (by omega) _).mono ?_; rintro e w' ⟨rfl, hx⟩) | (go_at_call 16; refine (down_any _ _ (by omega) (by omega) _).mono ?_; rintro e w' ⟨rfl, hx⟩))
      all_goals
        go_ret
        exact ⟨rfl, (by repeat (first | assumption | exact Ext.refl _ | refine Ext.alloc ?_ _ | refine Ext.drew ?_ | refine Ext.drewN ?_ _ | refine Ext.trans (by assumption) ?_))⟩
  · have g5 : ¬ 0 < Num.down a b := by unfold Num.down; omega
    cases h1 : Num.addB a b with
    | false =>
      have f1 : ((Num.up a b : Int) == (Num.addV a b : Nat)) = false := by
        unfold Num.addB at h1; have := of_decide_eq_false h1
        unfold Num.up Num.addV; rw [if_neg this, if_neg this]; rfl
      have f2 : ((Num.up a b : Int) == 0) = false := by
        unfold Num.addB at h1; have := of_decide_eq_false h1
        unfold Num.up; rw [if_neg this]; rfl
      go_enter Try.func7, Try.ntmps7
      go_wp2_with (first | (go_at_call 11; refine (awake_any _).mono ?_; rintro e w' ⟨rfl, hx⟩) | (go_at_call 14; refine (add_any _ _ (by omega) (by omega) _).mono ?_; rintro e w' ⟨rfl, hx⟩) | (go_at_call 15; refine (up_any _ _ (by omega) (by omega) _).mono ?_; rintro e w' ⟨rfl, hx⟩) | (go_at_call 16; refine (down_any _ _ (by omega) (by omega) _).mono ?_; rintro e w' ⟨rfl, hx⟩))
      all_goals
        go_ret
        exact ⟨rfl, (by repeat (first | assumption | exact Ext.refl _ | refine Ext.alloc ?_ _ | refine Ext.drew ?_ | refine Ext.drewN ?_ _ | refine Ext.trans (by assumption) ?_))⟩
    | true =>
      have f1 : ((Num.up a b : Int) == (Num.addV a b : Nat)) = true := by
        unfold Num.addB at h1; have := of_decide_eq_true h1
        unfold Num.up Num.addV; rw [if_pos this, if_pos this]; simp
      go_enter Try.func7, Try.ntmps7
      go_wp2_with (first | (go_at_call 11; refine (awake_any _).mono ?_; rintro e w' ⟨rfl, hx⟩) | (go_at_call 14; refine (add_any _ _ (by omega) (by omega) _).mono ?_; rintro e w' ⟨rfl, hx⟩) | (go_at_call 15; refine (up_any _ _ (by omega) (by omega) _).mono ?_; rintro e w' ⟨rfl, hx⟩) | (go_at_call 16; refine (down_any _ _ (by omega) (by omega) _).mono ?_; rintro e w' ⟨rfl, hx⟩))
      all_goals
        go_ret
        exact ⟨rfl, (by repeat (first | assumption | exact Ext.refl _ | refine Ext.alloc ?_ _ | refine Ext.drew ?_ | refine Ext.drewN ?_ _ | refine Ext.trans (by assumption) ?_))⟩
set_option maxRecDepth 100000 in
theorem NumEnds_lifted (os : Os) (started : os.Started) (H : Type) (enc : TypeId × Value → H) :
    ReturnsInHanded {} Try.checked os 7 .any (Rows.numEndsSpec.pre6 enc Try.prog Try.f7 Rows.numEndsRow.domain false) (Rows.numEndsSpec.post enc Try.prog Try.f7 false true false false) := by
  refine returnsInHanded_of_change_sized (C := Try.checked) own started (by kernel_rfl) Try.func7
    (ChangeSpec.witness6 (enc := enc) (C := Try.checked) false ⟨#[], #[.int .u64 0, .int .u64 0], []⟩ 8 (by kernel_rfl) (by kernel_rfl) (by kernel_rfl) (by kernel_rfl)) ?_
  intro W base args ds gs before hval0 hW _hcnd hsz0 _
  have hval : ∀ (j : Nat) t v, Try.f7.params[j]? = some t → args[j]? = some v → Value.okWide Try.prog W .any base t v := hval0
  have hsz : (DataW.weightsEach Try.prog (Try.f7.params.toList ++ Rows.numEndsSpec.plain.varTypes Try.prog) (ds ++ gs)).all (· ≤ reachBytes) = true := hsz0
  have hW' := hW
  obtain ⟨p, q, hA0, hV, rfl, hfz, hnd⟩ := hW
  have hA : DataW.TrodAll enc Try.prog W 0 (fun _ => true) true Try.f7.params.toList args.toList ds p := hA0
  rw [Try.params7] at hA hval hsz
  obtain ⟨v0, vs0, d0, ds0, p0, q0, hargs, rfl, rfl, h0, r0⟩ := trodAll_cons hA
  obtain ⟨v1, vs1, d1, ds1, p1, q1, rfl, rfl, rfl, h1, r1⟩ := trodAll_cons r0
  obtain ⟨rfl, rfl, rfl⟩ := trodAll_nil r1
  obtain rfl : args = #[v0, v1] := by cases args; simp_all
  obtain ⟨rfl, rfl⟩ := trodVars_none hV
  have h0k := h0
  have h1k := h1
  have hlt0 : ∀ x ∈ p0, x.block < W.heap.size := fun x hx => by have := hW'.lt x (by simp [hx]); simpa using this
  have hlt1 : ∀ x ∈ p1, x.block < W.heap.size := fun x hx => by have := hW'.lt x (by simp [hx]); simpa using this
  obtain ⟨a, rfl, ha⟩ := open_U64 Try.underlying22 (hval 0 22 v0 rfl rfl) h0
  obtain ⟨b, rfl, hb⟩ := open_U64 Try.underlying22 (hval 1 22 v1 rfl rfl) h1
  clear hA0 hval0
  simp only [List.append_nil] at hW'
  refine (NumEnds_walk a ha b hb W).mono fun e W' ⟨he, hg⟩ => ?_
  subst he
  exact ⟨_, rfl, post_law (pa := p0 ++ (p1 ++ [])) (pv := []) hW' (fun _ _ _ => (trodAll_cons_mk (shut_bool Try.underlying4 _) trodAll_mk0))
    (trodAll_cons_mk (Below.trod laidOut (by kernel_rfl) (of_decide_eq_true (by kernel_rfl)) h0k hg.out hlt0) (trodAll_cons_mk (Below.trod laidOut (by kernel_rfl) (of_decide_eq_true (by kernel_rfl)) h1k hg.out hlt1) trodAll_mk0)) rfl (by simp) hg⟩
theorem NumEnds_holds : Rows.NumEndsSaid :=
  OpenClaim.holds_of_wide 7 Try.f7 rfl rfl rfl rfl rfl rfl rfl ⟨rfl, rfl, rfl, rfl, rfl⟩ rfl rfl rfl rfl rfl (by kernel_rfl) Try.func7 (by kernel_rfl)
    (of_decide_eq_true (by kernel_rfl)) (by unfold Func.isWrapper; first | (rw [if_pos (by decide +kernel)]; kernel_rfl) | (rw [if_neg (by decide +kernel)]; exact ⟨rfl, rfl⟩))
    (fun os started H enc _ => NumEnds_lifted os started H enc)
#print axioms NumEnds_holds
end Go.Proofs.Ythonlbimdbdfgaa
