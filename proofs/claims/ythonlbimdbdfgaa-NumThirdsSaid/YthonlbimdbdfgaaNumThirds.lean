/- NumThirds: of three times a number it, and twice it, are just one third, and two thirds; for every input. -/
import Derived.Test.YthonlbimdbdfgaaNumRef
namespace Go.Proofs.Ythonlbimdbdfgaa
open Go.RowKit Go.WideShapes Go.ChangeShapes
set_option linter.unusedVariables false









set_option maxHeartbeats 4000000 in
theorem NumThirds_walk (n : Nat) (hn : n < 18446744073709551616) (w : World) :
    Calls Try.prog 6 #[.int .u64 n] w fun e w' => e = .returned (.bool true) ∧ Ext w w' := by
  by_cases h1 : n < 1
  · go_enter Try.func6, Try.ntmps6
    go_wp2_with (first | (go_at_call 11; refine (awake_any _).mono ?_; rintro e w' ⟨rfl, hx⟩))
    go_ret
    exact ⟨rfl, (by repeat (first | assumption | exact Ext.refl _ | refine Ext.alloc ?_ _ | refine Ext.drew ?_ | refine Ext.drewN ?_ _ | refine Ext.trans (by assumption) ?_))⟩
  by_cases h2 : 4611686018427387904 < n
  · go_enter Try.func6, Try.ntmps6
    go_wp2_with (first | (go_at_call 11; refine (awake_any _).mono ?_; rintro e w' ⟨rfl, hx⟩))
    go_ret
    exact ⟨rfl, (by repeat (first | assumption | exact Ext.refl _ | refine Ext.alloc ?_ _ | refine Ext.drew ?_ | refine Ext.drewN ?_ _ | refine Ext.trans (by assumption) ?_))⟩
  have S10 : ∀ W, Calls Try.prog 13 #[.int .u64 ((n : Int)), .int .u64 (3 * (n : Int))] W fun e w' => e = .returned (.bool true) ∧ Ext W w' := by
    intro W
    refine calls_two (p' := ((Int.toNat ((n : Int)) : Nat) : Int)) (q' := ((Int.toNat (3 * (n : Int)) : Nat) : Int)) (by omega) (by omega) ?_
    refine (some_any _ _ (by omega) (by omega) W).mono fun e w' ⟨he, hx⟩ => ⟨?_, hx⟩
    rw [he]
    congr 2
    first | exact decide_eq_true (by omega) | exact decide_eq_false (by omega)
  have S1 := Lib.hid S10
  clear S10
  have S20 : ∀ W, Calls Try.prog 13 #[.int .u64 ((n : Int) - 1), .int .u64 (3 * (n : Int))] W fun e w' => e = .returned (.bool false) ∧ Ext W w' := by
    intro W
    refine calls_two (p' := ((Int.toNat ((n : Int) - 1) : Nat) : Int)) (q' := ((Int.toNat (3 * (n : Int)) : Nat) : Int)) (by omega) (by omega) ?_
    refine (some_any _ _ (by omega) (by omega) W).mono fun e w' ⟨he, hx⟩ => ⟨?_, hx⟩
    rw [he]
    congr 2
    first | exact decide_eq_true (by omega) | exact decide_eq_false (by omega)
  have S2 := Lib.hid S20
  clear S20
  have S30 : ∀ W, Calls Try.prog 12 #[.int .u64 (2 * (n : Int)), .int .u64 (3 * (n : Int))] W fun e w' => e = .returned (.bool true) ∧ Ext W w' := by
    intro W
    refine calls_two (p' := ((Int.toNat (2 * (n : Int)) : Nat) : Int)) (q' := ((Int.toNat (3 * (n : Int)) : Nat) : Int)) (by omega) (by omega) ?_
    refine (most_any _ _ (by omega) (by omega) W).mono fun e w' ⟨he, hx⟩ => ⟨?_, hx⟩
    rw [he]
    congr 2
    first | exact decide_eq_true (by omega) | exact decide_eq_false (by omega)
  have S3 := Lib.hid S30
  clear S30
  have S40 : ∀ W, Calls Try.prog 12 #[.int .u64 (2 * (n : Int) - 1), .int .u64 (3 * (n : Int))] W fun e w' => e = .returned (.bool false) ∧ Ext W w' := by
    intro W
    refine calls_two (p' := ((Int.toNat (2 * (n : Int) - 1) : Nat) : Int)) (q' := ((Int.toNat (3 * (n : Int)) : Nat) : Int)) (by omega) (by omega) ?_
    refine (most_any _ _ (by omega) (by omega) W).mono fun e w' ⟨he, hx⟩ => ⟨?_, hx⟩
    rw [he]
    congr 2
    first | exact decide_eq_true (by omega) | exact decide_eq_false (by omega)
  have S4 := Lib.hid S40
  clear S40
  go_enter Try.func6, Try.ntmps6
  go_wp2_with (first | (go_at_call 11; refine (awake_any _).mono ?_; rintro e w' ⟨rfl, hx⟩))
  refine (S1.out _).mono ?_
  rintro e w1 ⟨rfl, hx1⟩
  go_wp2_with fail
  refine (S2.out _).mono ?_
  rintro e w2 ⟨rfl, hx2⟩
  go_wp2_with fail
  refine (S3.out _).mono ?_
  rintro e w3 ⟨rfl, hx3⟩
  go_wp2_with fail
  refine (S4.out _).mono ?_
  rintro e w4 ⟨rfl, hx4⟩
  go_wp2_with fail
  go_ret
  exact ⟨rfl, (by repeat (first | assumption | exact Ext.refl _ | refine Ext.alloc ?_ _ | refine Ext.drew ?_ | refine Ext.drewN ?_ _ | refine Ext.trans (by assumption) ?_))⟩
set_option maxRecDepth 100000 in
theorem NumThirds_lifted (os : Os) (started : os.Started) (H : Type) (enc : TypeId × Value → H) :
    ReturnsInHanded {} Try.checked os 6 .any (Rows.numThirdsSpec.pre6 enc Try.prog Try.f6 Rows.numThirdsRow.domain false) (Rows.numThirdsSpec.post enc Try.prog Try.f6 false true false false) := by
  refine returnsInHanded_of_change_sized (C := Try.checked) own started (by kernel_rfl) Try.func6
    (ChangeSpec.witness6 (enc := enc) (C := Try.checked) false ⟨#[], #[.int .u64 0], []⟩ 8 (by kernel_rfl) (by kernel_rfl) (by kernel_rfl) (by kernel_rfl)) ?_
  intro W base args ds gs before hval0 hW _hcnd hsz0 _
  have hval : ∀ (j : Nat) t v, Try.f6.params[j]? = some t → args[j]? = some v → Value.okWide Try.prog W .any base t v := hval0
  have hsz : (DataW.weightsEach Try.prog (Try.f6.params.toList ++ Rows.numThirdsSpec.plain.varTypes Try.prog) (ds ++ gs)).all (· ≤ reachBytes) = true := hsz0
  have hW' := hW
  obtain ⟨p, q, hA0, hV, rfl, hfz, hnd⟩ := hW
  have hA : DataW.TrodAll enc Try.prog W 0 (fun _ => true) true Try.f6.params.toList args.toList ds p := hA0
  rw [Try.params6] at hA hval hsz
  obtain ⟨v0, vs0, d0, ds0, p0, q0, hargs, rfl, rfl, h0, r0⟩ := trodAll_cons hA
  obtain ⟨rfl, rfl, rfl⟩ := trodAll_nil r0
  obtain rfl : args = #[v0] := by cases args; simp_all
  obtain ⟨rfl, rfl⟩ := trodVars_none hV
  have h0k := h0
  have hlt0 : ∀ x ∈ p0, x.block < W.heap.size := fun x hx => by have := hW'.lt x (by simp [hx]); simpa using this
  obtain ⟨n, rfl, hn⟩ := open_U64 Try.underlying22 (hval 0 22 v0 rfl rfl) h0
  clear hA0 hval0
  simp only [List.append_nil] at hW'
  refine (NumThirds_walk n hn W).mono fun e W' ⟨he, hg⟩ => ?_
  subst he
  exact ⟨_, rfl, post_law (pa := p0 ++ []) (pv := []) hW' (fun _ _ _ => (trodAll_cons_mk (shut_bool Try.underlying4 _) trodAll_mk0))
    (trodAll_cons_mk (Below.trod laidOut (by kernel_rfl) (of_decide_eq_true (by kernel_rfl)) h0k hg.out hlt0) trodAll_mk0) rfl (by simp) hg⟩
theorem NumThirds_holds : Rows.NumThirdsSaid :=
  OpenClaim.holds_of_wide 6 Try.f6 rfl rfl rfl rfl rfl rfl rfl ⟨rfl, rfl, rfl, rfl, rfl⟩ rfl rfl rfl rfl rfl (by kernel_rfl) Try.func6 (by kernel_rfl)
    (of_decide_eq_true (by kernel_rfl)) (by unfold Func.isWrapper; first | (rw [if_pos (by decide +kernel)]; kernel_rfl) | (rw [if_neg (by decide +kernel)]; exact ⟨rfl, rfl⟩))
    (fun os started H enc _ => NumThirds_lifted os started H enc)
#print axioms NumThirds_holds
end Go.Proofs.Ythonlbimdbdfgaa
