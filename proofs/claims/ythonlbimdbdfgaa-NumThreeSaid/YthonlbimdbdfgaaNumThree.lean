/- NumThree: three numbers come to the same whichever two are added first, if their sum is told; for every input. -/
import Derived.Test.YthonlbimdbdfgaaNumRef
namespace Go.Proofs.Ythonlbimdbdfgaa
open Go.RowKit Go.WideShapes Go.ChangeShapes
set_option linter.unusedVariables false









theorem Num.up_up (a b c : Nat) (ha : a < M) (hb : b < M) (hc : c < M) : Num.up (Num.up a b) c = Num.up a (Num.up b c) := by
  unfold Num.up M at *
  repeat' split
  all_goals omega
theorem Num.add_add {a b c : Nat} (h : Num.addB a b = true) (k : Num.addB (Num.addV a b) c = true) : Num.addB b c = true ∧ Num.addB a (Num.addV b c) = true ∧ Num.addV a (Num.addV b c) = Num.addV (Num.addV a b) c := by
  unfold Num.addB Num.addV Num.M at *
  have h1 := of_decide_eq_true h
  rw [if_pos h1] at k ⊢
  have h2 := of_decide_eq_true k
  rw [if_pos (show b + c < 18446744073709551616 by omega), if_pos h2, if_pos (by omega)]
  exact ⟨decide_eq_true (by omega), decide_eq_true (by omega), by omega⟩
set_option maxHeartbeats 4000000 in
theorem NumThree_walk (a : Nat) (ha : a < 18446744073709551616) (b : Nat) (hb : b < 18446744073709551616) (c : Nat) (hc : c < 18446744073709551616) (w : World) :
    Calls Try.prog 5 #[.int .u64 a, .int .u64 b, .int .u64 c] w fun e w' => e = .returned (.bool true) ∧ Ext w w' := by
  have b1 : Num.addV a b < 18446744073709551616 := Num.addV_lt a b
  have b2 : Num.addV b c < 18446744073709551616 := Num.addV_lt b c
  have b3 : Num.up a b < 18446744073709551616 := Num.up_lt a b
  have b4 : Num.up b c < 18446744073709551616 := Num.up_lt b c
  have hu : ((Num.up (Num.up a b) c : Int) != (Num.up a (Num.up b c) : Nat)) = false := by rw [Num.up_up a b c ha hb hc]; simp
  cases h1 : Num.addB a b with
  | false =>
    go_enter Try.func5, Try.ntmps5
    go_wp2_with (first | (go_at_call 11; refine (awake_any _).mono ?_; rintro e w' ⟨rfl, hx⟩) | (go_at_call 14; refine (add_any _ _ (by omega) (by omega) _).mono ?_; rintro e w' ⟨rfl, hx⟩) | (go_at_call 15; refine (up_any _ _ (by omega) (by omega) _).mono ?_; rintro e w' ⟨rfl, hx⟩))
    all_goals
      go_ret
      exact ⟨rfl, (by repeat (first | assumption | exact Ext.refl _ | refine Ext.alloc ?_ _ | refine Ext.drew ?_ | refine Ext.drewN ?_ _ | refine Ext.trans (by assumption) ?_))⟩
  | true =>
    cases h2 : Num.addB (Num.addV a b) c with
    | false =>
      go_enter Try.func5, Try.ntmps5
      go_wp2_with (first | (go_at_call 11; refine (awake_any _).mono ?_; rintro e w' ⟨rfl, hx⟩) | (go_at_call 14; refine (add_any _ _ (by omega) (by omega) _).mono ?_; rintro e w' ⟨rfl, hx⟩) | (go_at_call 15; refine (up_any _ _ (by omega) (by omega) _).mono ?_; rintro e w' ⟨rfl, hx⟩))
      all_goals
        go_ret
        exact ⟨rfl, (by repeat (first | assumption | exact Ext.refl _ | refine Ext.alloc ?_ _ | refine Ext.drew ?_ | refine Ext.drewN ?_ _ | refine Ext.trans (by assumption) ?_))⟩
    | true =>
      obtain ⟨h3, h4, h5⟩ := Num.add_add h1 h2
      have h6 : ((Num.addV a (Num.addV b c) : Int) == (Num.addV (Num.addV a b) c : Nat)) = true := by rw [h5]; simp
      clear h5
      go_enter Try.func5, Try.ntmps5
      go_wp2_with (first | (go_at_call 11; refine (awake_any _).mono ?_; rintro e w' ⟨rfl, hx⟩) | (go_at_call 14; refine (add_any _ _ (by omega) (by omega) _).mono ?_; rintro e w' ⟨rfl, hx⟩) | (go_at_call 15; refine (up_any _ _ (by omega) (by omega) _).mono ?_; rintro e w' ⟨rfl, hx⟩))
      all_goals
        go_ret
        exact ⟨rfl, (by repeat (first | assumption | exact Ext.refl _ | refine Ext.alloc ?_ _ | refine Ext.drew ?_ | refine Ext.drewN ?_ _ | refine Ext.trans (by assumption) ?_))⟩
set_option maxRecDepth 100000 in
theorem NumThree_lifted (os : Os) (started : os.Started) (H : Type) (enc : TypeId × Value → H) :
    ReturnsInHanded {} Try.checked os 5 .any (Rows.numThreeSpec.pre6 enc Try.prog Try.f5 Rows.numThreeRow.domain false) (Rows.numThreeSpec.post enc Try.prog Try.f5 false true false false) := by
  refine returnsInHanded_of_change_sized (C := Try.checked) own started (by kernel_rfl) Try.func5
    (ChangeSpec.witness6 (enc := enc) (C := Try.checked) false ⟨#[], #[.int .u64 0, .int .u64 0, .int .u64 0], []⟩ 8 (by kernel_rfl) (by kernel_rfl) (by kernel_rfl) (by kernel_rfl)) ?_
  intro W base args ds gs before hval0 hW _hcnd hsz0 _
  have hval : ∀ (j : Nat) t v, Try.f5.params[j]? = some t → args[j]? = some v → Value.okWide Try.prog W .any base t v := hval0
  have hsz : (DataW.weightsEach Try.prog (Try.f5.params.toList ++ Rows.numThreeSpec.plain.varTypes Try.prog) (ds ++ gs)).all (· ≤ reachBytes) = true := hsz0
  have hW' := hW
  obtain ⟨p, q, hA0, hV, rfl, hfz, hnd⟩ := hW
  have hA : DataW.TrodAll enc Try.prog W 0 (fun _ => true) true Try.f5.params.toList args.toList ds p := hA0
  rw [Try.params5] at hA hval hsz
  obtain ⟨v0, vs0, d0, ds0, p0, q0, hargs, rfl, rfl, h0, r0⟩ := trodAll_cons hA
  obtain ⟨v1, vs1, d1, ds1, p1, q1, rfl, rfl, rfl, h1, r1⟩ := trodAll_cons r0
  obtain ⟨v2, vs2, d2, ds2, p2, q2, rfl, rfl, rfl, h2, r2⟩ := trodAll_cons r1
  obtain ⟨rfl, rfl, rfl⟩ := trodAll_nil r2
  obtain rfl : args = #[v0, v1, v2] := by cases args; simp_all
  obtain ⟨rfl, rfl⟩ := trodVars_none hV
  have h0k := h0
  have h1k := h1
  have h2k := h2
  have hlt0 : ∀ x ∈ p0, x.block < W.heap.size := fun x hx => by have := hW'.lt x (by simp [hx]); simpa using this
  have hlt1 : ∀ x ∈ p1, x.block < W.heap.size := fun x hx => by have := hW'.lt x (by simp [hx]); simpa using this
  have hlt2 : ∀ x ∈ p2, x.block < W.heap.size := fun x hx => by have := hW'.lt x (by simp [hx]); simpa using this
  obtain ⟨a, rfl, ha⟩ := open_U64 Try.underlying22 (hval 0 22 v0 rfl rfl) h0
  obtain ⟨b, rfl, hb⟩ := open_U64 Try.underlying22 (hval 1 22 v1 rfl rfl) h1
  obtain ⟨c, rfl, hc⟩ := open_U64 Try.underlying22 (hval 2 22 v2 rfl rfl) h2
  clear hA0 hval0
  simp only [List.append_nil] at hW'
  refine (NumThree_walk a ha b hb c hc W).mono fun e W' ⟨he, hg⟩ => ?_
  subst he
  exact ⟨_, rfl, post_law (pa := p0 ++ (p1 ++ (p2 ++ []))) (pv := []) hW' (fun _ _ _ => (trodAll_cons_mk (shut_bool Try.underlying4 _) trodAll_mk0))
    (trodAll_cons_mk (Below.trod laidOut (by kernel_rfl) (of_decide_eq_true (by kernel_rfl)) h0k hg.out hlt0) (trodAll_cons_mk (Below.trod laidOut (by kernel_rfl) (of_decide_eq_true (by kernel_rfl)) h1k hg.out hlt1) (trodAll_cons_mk (Below.trod laidOut (by kernel_rfl) (of_decide_eq_true (by kernel_rfl)) h2k hg.out hlt2) trodAll_mk0))) rfl (by simp) hg⟩
theorem NumThree_holds : Rows.NumThreeSaid :=
  OpenClaim.holds_of_wide 5 Try.f5 rfl rfl rfl rfl rfl rfl rfl ⟨rfl, rfl, rfl, rfl, rfl⟩ rfl rfl rfl rfl rfl (by kernel_rfl) Try.func5 (by kernel_rfl)
    (of_decide_eq_true (by kernel_rfl)) (by unfold Func.isWrapper; first | (rw [if_pos (by decide +kernel)]; kernel_rfl) | (rw [if_neg (by decide +kernel)]; exact ⟨rfl, rfl⟩))
    (fun os started H enc _ => NumThree_lifted os started H enc)
#print axioms NumThree_holds
end Go.Proofs.Ythonlbimdbdfgaa
