/- NumBack: a sum less one of both is the other one, a product by one of both, too; what is not told is more, or less, than there is; for every input. -/
import Derived.Test.YthonlbimdbdfgaaNumRef
namespace Go.Proofs.Ythonlbimdbdfgaa
open Go.RowKit Go.WideShapes Go.ChangeShapes
set_option linter.unusedVariables false











theorem Num.mul_back {a b : Nat} (h : Num.mulB a b = true) (hz : ¬ a = 0) : ((Num.mulV a b : Int) / (a : Int)) = (b : Int) ∧ ((Num.mulV a b : Int) % (a : Int)) = 0 := by
  unfold Num.mulB at h
  have h1 := of_decide_eq_true h
  have e : Num.mulV a b = a * b := by unfold Num.mulV; rw [if_pos h1]
  rw [e]
  constructor
  · rw [← Int.natCast_ediv, Nat.mul_div_cancel_left _ (by omega)]
  · rw [← Int.natCast_emod, Nat.mul_mod_right]; rfl
theorem Num.mul_zero {a b : Nat} (h : Num.mulB a b = false) : ¬ a = 0 ∧ ¬ b = 0 := by
  unfold Num.mulB at h
  have h1 := of_decide_eq_false h
  constructor
  · rintro rfl
    exact h1 (by simp [Num.M])
  · rintro rfl
    exact h1 (by simp [Num.M])
set_option maxHeartbeats 4000000 in
theorem NumBack_yes (a : Nat) (ha : a < 18446744073709551616) (b : Nat) (hb : b < 18446744073709551616) (ho : a + b < 18446744073709551616) (w : World) :
    Calls Try.prog 8 #[.int .u64 a, .int .u64 b] w fun e w' => e = .returned (.bool true) ∧ Ext w w' := by
  have b1 : Num.addV a b < 18446744073709551616 := Num.addV_lt a b
  have b2 : Num.subV a b < 18446744073709551616 := Nat.lt_of_le_of_lt (Nat.sub_le _ _) ha
  have a1 : Num.addB a b = true := by unfold Num.addB; exact decide_eq_true ho
  have a2 : Num.subB (Num.addV a b) b = true := by unfold Num.subB Num.addV Num.M; rw [if_pos ho]; exact decide_eq_true (by omega)
  have a3 : ((Num.subV (Num.addV a b) b : Int) != (a : Int)) = false := by
    have : Num.subV (Num.addV a b) b = a := by unfold Num.addV Num.subV Num.M; rw [if_pos ho]; omega
    rw [this]; simp
  by_cases hs : b ≤ a
  · have s1 : Num.subB a b = true := by unfold Num.subB; exact decide_eq_true hs
    have s2 : Num.addB (Num.subV a b) b = true := by unfold Num.addB Num.subV Num.M; exact decide_eq_true (by omega)
    have s3 : ((Num.addV (Num.subV a b) b : Int) != (a : Int)) = false := by
      have : Num.addV (Num.subV a b) b = a := by unfold Num.addV Num.subV Num.M; rw [if_pos (by omega)]; omega
      rw [this]; simp
    cases hm : Num.mulB a b with
    | false =>
      obtain ⟨hz1, hz2⟩ := Num.mul_zero hm
      have hz3 : ((a : Int) == 0) = false := by rw [beq_eq_false_iff_ne]; omega
      have hz4 : ((b : Int) == 0) = false := by rw [beq_eq_false_iff_ne]; omega
      go_enter Try.func8, Try.ntmps8
      go_wp2_with (first | (go_at_call 11; refine (awake_any _).mono ?_; rintro e w' ⟨rfl, hx⟩) | (go_at_call 14; refine (add_any _ _ (by omega) (by omega) _).mono ?_; rintro e w' ⟨rfl, hx⟩) | (go_at_call 17; refine (sub_any _ _ (by omega) (by omega) _).mono ?_; rintro e w' ⟨rfl, hx⟩) | (go_at_call 18; refine (mul_any _ _ (by omega) (by omega) _).mono ?_; rintro e w' ⟨rfl, hx⟩))
      all_goals
        go_ret
        exact ⟨rfl, (by repeat (first | assumption | exact Ext.refl _ | refine Ext.alloc ?_ _ | refine Ext.drew ?_ | refine Ext.drewN ?_ _ | refine Ext.trans (by assumption) ?_))⟩
    | true =>
      by_cases hz : a = 0
      · have hz3 : ((a : Int) == 0) = true := by rw [hz]; rfl
        clear hz
        go_enter Try.func8, Try.ntmps8
        go_wp2_with (first | (go_at_call 11; refine (awake_any _).mono ?_; rintro e w' ⟨rfl, hx⟩) | (go_at_call 14; refine (add_any _ _ (by omega) (by omega) _).mono ?_; rintro e w' ⟨rfl, hx⟩) | (go_at_call 17; refine (sub_any _ _ (by omega) (by omega) _).mono ?_; rintro e w' ⟨rfl, hx⟩) | (go_at_call 18; refine (mul_any _ _ (by omega) (by omega) _).mono ?_; rintro e w' ⟨rfl, hx⟩))
        all_goals
          go_ret
          exact ⟨rfl, (by repeat (first | assumption | exact Ext.refl _ | refine Ext.alloc ?_ _ | refine Ext.drew ?_ | refine Ext.drewN ?_ _ | refine Ext.trans (by assumption) ?_))⟩
      · obtain ⟨hq1, hq2⟩ := Num.mul_back hm hz
        have hz3 : ((a : Int) == 0) = false := by rw [beq_eq_false_iff_ne]; omega
        go_enter Try.func8, Try.ntmps8
        go_wp2_with (first | (go_at_call 11; refine (awake_any _).mono ?_; rintro e w' ⟨rfl, hx⟩) | (go_at_call 14; refine (add_any _ _ (by omega) (by omega) _).mono ?_; rintro e w' ⟨rfl, hx⟩) | (go_at_call 17; refine (sub_any _ _ (by omega) (by omega) _).mono ?_; rintro e w' ⟨rfl, hx⟩) | (go_at_call 18; refine (mul_any _ _ (by omega) (by omega) _).mono ?_; rintro e w' ⟨rfl, hx⟩))
        all_goals
          go_ret
          exact ⟨rfl, (by repeat (first | assumption | exact Ext.refl _ | refine Ext.alloc ?_ _ | refine Ext.drew ?_ | refine Ext.drewN ?_ _ | refine Ext.trans (by assumption) ?_))⟩
  · have s1 : Num.subB a b = false := by unfold Num.subB; exact decide_eq_false hs
    cases hm : Num.mulB a b with
    | false =>
      obtain ⟨hz1, hz2⟩ := Num.mul_zero hm
      have hz3 : ((a : Int) == 0) = false := by rw [beq_eq_false_iff_ne]; omega
      have hz4 : ((b : Int) == 0) = false := by rw [beq_eq_false_iff_ne]; omega
      go_enter Try.func8, Try.ntmps8
      go_wp2_with (first | (go_at_call 11; refine (awake_any _).mono ?_; rintro e w' ⟨rfl, hx⟩) | (go_at_call 14; refine (add_any _ _ (by omega) (by omega) _).mono ?_; rintro e w' ⟨rfl, hx⟩) | (go_at_call 17; refine (sub_any _ _ (by omega) (by omega) _).mono ?_; rintro e w' ⟨rfl, hx⟩) | (go_at_call 18; refine (mul_any _ _ (by omega) (by omega) _).mono ?_; rintro e w' ⟨rfl, hx⟩))
      all_goals
        go_ret
        exact ⟨rfl, (by repeat (first | assumption | exact Ext.refl _ | refine Ext.alloc ?_ _ | refine Ext.drew ?_ | refine Ext.drewN ?_ _ | refine Ext.trans (by assumption) ?_))⟩
    | true =>
      by_cases hz : a = 0
      · have hz3 : ((a : Int) == 0) = true := by rw [hz]; rfl
        clear hz
        go_enter Try.func8, Try.ntmps8
        go_wp2_with (first | (go_at_call 11; refine (awake_any _).mono ?_; rintro e w' ⟨rfl, hx⟩) | (go_at_call 14; refine (add_any _ _ (by omega) (by omega) _).mono ?_; rintro e w' ⟨rfl, hx⟩) | (go_at_call 17; refine (sub_any _ _ (by omega) (by omega) _).mono ?_; rintro e w' ⟨rfl, hx⟩) | (go_at_call 18; refine (mul_any _ _ (by omega) (by omega) _).mono ?_; rintro e w' ⟨rfl, hx⟩))
        all_goals
          go_ret
          exact ⟨rfl, (by repeat (first | assumption | exact Ext.refl _ | refine Ext.alloc ?_ _ | refine Ext.drew ?_ | refine Ext.drewN ?_ _ | refine Ext.trans (by assumption) ?_))⟩
      · obtain ⟨hq1, hq2⟩ := Num.mul_back hm hz
        have hz3 : ((a : Int) == 0) = false := by rw [beq_eq_false_iff_ne]; omega
        go_enter Try.func8, Try.ntmps8
        go_wp2_with (first | (go_at_call 11; refine (awake_any _).mono ?_; rintro e w' ⟨rfl, hx⟩) | (go_at_call 14; refine (add_any _ _ (by omega) (by omega) _).mono ?_; rintro e w' ⟨rfl, hx⟩) | (go_at_call 17; refine (sub_any _ _ (by omega) (by omega) _).mono ?_; rintro e w' ⟨rfl, hx⟩) | (go_at_call 18; refine (mul_any _ _ (by omega) (by omega) _).mono ?_; rintro e w' ⟨rfl, hx⟩))
        all_goals
          go_ret
          exact ⟨rfl, (by repeat (first | assumption | exact Ext.refl _ | refine Ext.alloc ?_ _ | refine Ext.drew ?_ | refine Ext.drewN ?_ _ | refine Ext.trans (by assumption) ?_))⟩
set_option maxHeartbeats 4000000 in
theorem NumBack_no (a : Nat) (ha : a < 18446744073709551616) (b : Nat) (hb : b < 18446744073709551616) (ho : ¬ a + b < 18446744073709551616) (w : World) :
    Calls Try.prog 8 #[.int .u64 a, .int .u64 b] w fun e w' => e = .returned (.bool true) ∧ Ext w w' := by
  have b1 : Num.addV a b < 18446744073709551616 := Num.addV_lt a b
  have b2 : Num.subV a b < 18446744073709551616 := Nat.lt_of_le_of_lt (Nat.sub_le _ _) ha
  have a1 : Num.addB a b = false := by unfold Num.addB; exact decide_eq_false ho
  have a2 : ¬ (a : Int) ≤ IntKind.u64.wrap ((a : Int) + b) := by rw [IntKind.wrap_u64]; omega
  clear ho
  by_cases hs : b ≤ a
  · have s1 : Num.subB a b = true := by unfold Num.subB; exact decide_eq_true hs
    have s2 : Num.addB (Num.subV a b) b = true := by unfold Num.addB Num.subV Num.M; exact decide_eq_true (by omega)
    have s3 : ((Num.addV (Num.subV a b) b : Int) != (a : Int)) = false := by
      have : Num.addV (Num.subV a b) b = a := by unfold Num.addV Num.subV Num.M; rw [if_pos (by omega)]; omega
      rw [this]; simp
    cases hm : Num.mulB a b with
    | false =>
      obtain ⟨hz1, hz2⟩ := Num.mul_zero hm
      have hz3 : ((a : Int) == 0) = false := by rw [beq_eq_false_iff_ne]; omega
      have hz4 : ((b : Int) == 0) = false := by rw [beq_eq_false_iff_ne]; omega
      go_enter Try.func8, Try.ntmps8
      go_wp2_with (first | (go_at_call 11; refine (awake_any _).mono ?_; rintro e w' ⟨rfl, hx⟩) | (go_at_call 14; refine (add_any _ _ (by omega) (by omega) _).mono ?_; rintro e w' ⟨rfl, hx⟩) | (go_at_call 17; refine (sub_any _ _ (by omega) (by omega) _).mono ?_; rintro e w' ⟨rfl, hx⟩) | (go_at_call 18; refine (mul_any _ _ (by omega) (by omega) _).mono ?_; rintro e w' ⟨rfl, hx⟩))
      all_goals
        go_ret
        exact ⟨rfl, (by repeat (first | assumption | exact Ext.refl _ | refine Ext.alloc ?_ _ | refine Ext.drew ?_ | refine Ext.drewN ?_ _ | refine Ext.trans (by assumption) ?_))⟩
    | true =>
      by_cases hz : a = 0
      · have hz3 : ((a : Int) == 0) = true := by rw [hz]; rfl
        clear hz
        go_enter Try.func8, Try.ntmps8
        go_wp2_with (first | (go_at_call 11; refine (awake_any _).mono ?_; rintro e w' ⟨rfl, hx⟩) | (go_at_call 14; refine (add_any _ _ (by omega) (by omega) _).mono ?_; rintro e w' ⟨rfl, hx⟩) | (go_at_call 17; refine (sub_any _ _ (by omega) (by omega) _).mono ?_; rintro e w' ⟨rfl, hx⟩) | (go_at_call 18; refine (mul_any _ _ (by omega) (by omega) _).mono ?_; rintro e w' ⟨rfl, hx⟩))
        all_goals
          go_ret
          exact ⟨rfl, (by repeat (first | assumption | exact Ext.refl _ | refine Ext.alloc ?_ _ | refine Ext.drew ?_ | refine Ext.drewN ?_ _ | refine Ext.trans (by assumption) ?_))⟩
      · obtain ⟨hq1, hq2⟩ := Num.mul_back hm hz
        have hz3 : ((a : Int) == 0) = false := by rw [beq_eq_false_iff_ne]; omega
        go_enter Try.func8, Try.ntmps8
        go_wp2_with (first | (go_at_call 11; refine (awake_any _).mono ?_; rintro e w' ⟨rfl, hx⟩) | (go_at_call 14; refine (add_any _ _ (by omega) (by omega) _).mono ?_; rintro e w' ⟨rfl, hx⟩) | (go_at_call 17; refine (sub_any _ _ (by omega) (by omega) _).mono ?_; rintro e w' ⟨rfl, hx⟩) | (go_at_call 18; refine (mul_any _ _ (by omega) (by omega) _).mono ?_; rintro e w' ⟨rfl, hx⟩))
        all_goals
          go_ret
          exact ⟨rfl, (by repeat (first | assumption | exact Ext.refl _ | refine Ext.alloc ?_ _ | refine Ext.drew ?_ | refine Ext.drewN ?_ _ | refine Ext.trans (by assumption) ?_))⟩
  · have s1 : Num.subB a b = false := by unfold Num.subB; exact decide_eq_false hs
    cases hm : Num.mulB a b with
    | false =>
      obtain ⟨hz1, hz2⟩ := Num.mul_zero hm
      have hz3 : ((a : Int) == 0) = false := by rw [beq_eq_false_iff_ne]; omega
      have hz4 : ((b : Int) == 0) = false := by rw [beq_eq_false_iff_ne]; omega
      go_enter Try.func8, Try.ntmps8
      go_wp2_with (first | (go_at_call 11; refine (awake_any _).mono ?_; rintro e w' ⟨rfl, hx⟩) | (go_at_call 14; refine (add_any _ _ (by omega) (by omega) _).mono ?_; rintro e w' ⟨rfl, hx⟩) | (go_at_call 17; refine (sub_any _ _ (by omega) (by omega) _).mono ?_; rintro e w' ⟨rfl, hx⟩) | (go_at_call 18; refine (mul_any _ _ (by omega) (by omega) _).mono ?_; rintro e w' ⟨rfl, hx⟩))
      all_goals
        go_ret
        exact ⟨rfl, (by repeat (first | assumption | exact Ext.refl _ | refine Ext.alloc ?_ _ | refine Ext.drew ?_ | refine Ext.drewN ?_ _ | refine Ext.trans (by assumption) ?_))⟩
    | true =>
      by_cases hz : a = 0
      · have hz3 : ((a : Int) == 0) = true := by rw [hz]; rfl
        clear hz
        go_enter Try.func8, Try.ntmps8
        go_wp2_with (first | (go_at_call 11; refine (awake_any _).mono ?_; rintro e w' ⟨rfl, hx⟩) | (go_at_call 14; refine (add_any _ _ (by omega) (by omega) _).mono ?_; rintro e w' ⟨rfl, hx⟩) | (go_at_call 17; refine (sub_any _ _ (by omega) (by omega) _).mono ?_; rintro e w' ⟨rfl, hx⟩) | (go_at_call 18; refine (mul_any _ _ (by omega) (by omega) _).mono ?_; rintro e w' ⟨rfl, hx⟩))
        all_goals
          go_ret
          exact ⟨rfl, (by repeat (first | assumption | exact Ext.refl _ | refine Ext.alloc ?_ _ | refine Ext.drew ?_ | refine Ext.drewN ?_ _ | refine Ext.trans (by assumption) ?_))⟩
      · obtain ⟨hq1, hq2⟩ := Num.mul_back hm hz
        have hz3 : ((a : Int) == 0) = false := by rw [beq_eq_false_iff_ne]; omega
        go_enter Try.func8, Try.ntmps8
        go_wp2_with (first | (go_at_call 11; refine (awake_any _).mono ?_; rintro e w' ⟨rfl, hx⟩) | (go_at_call 14; refine (add_any _ _ (by omega) (by omega) _).mono ?_; rintro e w' ⟨rfl, hx⟩) | (go_at_call 17; refine (sub_any _ _ (by omega) (by omega) _).mono ?_; rintro e w' ⟨rfl, hx⟩) | (go_at_call 18; refine (mul_any _ _ (by omega) (by omega) _).mono ?_; rintro e w' ⟨rfl, hx⟩))
        all_goals
          go_ret
          exact ⟨rfl, (by repeat (first | assumption | exact Ext.refl _ | refine Ext.alloc ?_ _ | refine Ext.drew ?_ | refine Ext.drewN ?_ _ | refine Ext.trans (by assumption) ?_))⟩
theorem NumBack_walk (a : Nat) (ha : a < 18446744073709551616) (b : Nat) (hb : b < 18446744073709551616) (w : World) :
    Calls Try.prog 8 #[.int .u64 a, .int .u64 b] w fun e w' => e = .returned (.bool true) ∧ Ext w w' := by
  by_cases ho : a + b < 18446744073709551616
  · exact NumBack_yes a ha b hb ho w
  · exact NumBack_no a ha b hb ho w
set_option maxRecDepth 100000 in
theorem NumBack_lifted (os : Os) (started : os.Started) (H : Type) (enc : TypeId × Value → H) :
    ReturnsInHanded {} Try.checked os 8 .any (Rows.numBackSpec.pre6 enc Try.prog Try.f8 Rows.numBackRow.domain false) (Rows.numBackSpec.post enc Try.prog Try.f8 false true false false) := by
  refine returnsInHanded_of_change_sized (C := Try.checked) own started (by kernel_rfl) Try.func8
    (ChangeSpec.witness6 (enc := enc) (C := Try.checked) false ⟨#[], #[.int .u64 0, .int .u64 0], []⟩ 8 (by kernel_rfl) (by kernel_rfl) (by kernel_rfl) (by kernel_rfl)) ?_
  intro W base args ds gs before hval0 hW _hcnd hsz0 _
  have hval : ∀ (j : Nat) t v, Try.f8.params[j]? = some t → args[j]? = some v → Value.okWide Try.prog W .any base t v := hval0
  have hsz : (DataW.weightsEach Try.prog (Try.f8.params.toList ++ Rows.numBackSpec.plain.varTypes Try.prog) (ds ++ gs)).all (· ≤ reachBytes) = true := hsz0
  have hW' := hW
  obtain ⟨p, q, hA0, hV, rfl, hfz, hnd⟩ := hW
  have hA : DataW.TrodAll enc Try.prog W 0 (fun _ => true) true Try.f8.params.toList args.toList ds p := hA0
  rw [Try.params8] at hA hval hsz
  obtain ⟨v0, vs0, d0, ds0, p0, q0, hargs, rfl, rfl, h0, r0⟩ := trodAll_cons hA
  obtain ⟨v1, vs1, d1, ds1, p1, q1, rfl, rfl, rfl, h1, r1⟩ := trodAll_cons r0
  obtain ⟨rfl, rfl, rfl⟩ := trodAll_nil r1
  obtain rfl : args = #[v0, v1] := by cases args; simp_all
  obtain ⟨rfl, rfl⟩ := trodVars_none hV
  have h0k := h0
  have h1k := h1
  have hlt0 : ∀ x ∈ p0, x.block < W.heap.size := fun x hx => by have := hW'.lt x (by simp [hx]); simpa using this
  have hlt1 : ∀ x ∈ p1, x.block < W.heap.size := fun x hx => by have := hW'.lt x (by simp [hx]); simpa using this
  obtain ⟨a, rfl, ha⟩ := open_U64 Try.underlying22 (hval 0 22 v0 rfl rfl) h0
  obtain ⟨b, rfl, hb⟩ := open_U64 Try.underlying22 (hval 1 22 v1 rfl rfl) h1
  clear hA0 hval0
  simp only [List.append_nil] at hW'
  refine (NumBack_walk a ha b hb W).mono fun e W' ⟨he, hg⟩ => ?_
  subst he
  exact ⟨_, rfl, post_law (pa := p0 ++ (p1 ++ [])) (pv := []) hW' (fun _ _ _ => (trodAll_cons_mk (shut_bool Try.underlying4 _) trodAll_mk0))
    (trodAll_cons_mk (Below.trod laidOut (by kernel_rfl) (of_decide_eq_true (by kernel_rfl)) h0k hg.out hlt0) (trodAll_cons_mk (Below.trod laidOut (by kernel_rfl) (of_decide_eq_true (by kernel_rfl)) h1k hg.out hlt1) trodAll_mk0)) rfl (by simp) hg⟩
theorem NumBack_holds : Rows.NumBackSaid :=
  OpenClaim.holds_of_wide 8 Try.f8 rfl rfl rfl rfl rfl rfl rfl ⟨rfl, rfl, rfl, rfl, rfl⟩ rfl rfl rfl rfl rfl (by kernel_rfl) Try.func8 (by kernel_rfl)
    (of_decide_eq_true (by kernel_rfl)) (by unfold Func.isWrapper; first | (rw [if_pos (by decide +kernel)]; kernel_rfl) | (rw [if_neg (by decide +kernel)]; exact ⟨rfl, rfl⟩))
    (fun os started H enc _ => NumBack_lifted os started H enc)
#print axioms NumBack_holds
end Go.Proofs.Ythonlbimdbdfgaa
