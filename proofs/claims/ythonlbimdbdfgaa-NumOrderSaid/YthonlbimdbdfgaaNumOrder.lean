/- NumOrder: a sum, and a product, are the same either way round, and so is what stops at the end; for every input. -/
import Derived.Test.YthonlbimdbdfgaaNumRef
namespace Go.Proofs.Ythonlbimdbdfgaa
open Go.RowKit Go.WideShapes Go.ChangeShapes
set_option linter.unusedVariables false










set_option maxHeartbeats 4000000 in
theorem NumOrder_walk (a : Nat) (ha : a < 18446744073709551616) (b : Nat) (hb : b < 18446744073709551616) (w : World) :
    Calls Try.prog 9 #[.int .u64 a, .int .u64 b] w fun e w' => e = .returned (.bool true) ∧ Ext w w' := by
  have f1 : ((Num.addV a b : Int) == (Num.addV b a : Nat)) = true := by rw [show Num.addV b a = Num.addV a b by unfold Num.addV; rw [Nat.add_comm]]; simp
  have f2 : (Num.addB a b == Num.addB b a) = true := by rw [show Num.addB b a = Num.addB a b by unfold Num.addB; rw [Nat.add_comm]]; simp
  have f3 : ((Num.mulV a b : Int) == (Num.mulV b a : Nat)) = true := by rw [show Num.mulV b a = Num.mulV a b by unfold Num.mulV; rw [Nat.mul_comm]]; simp
  have f4 : (Num.mulB a b == Num.mulB b a) = true := by rw [show Num.mulB b a = Num.mulB a b by unfold Num.mulB; rw [Nat.mul_comm]]; simp
  have f5 : ((Num.up a b : Int) == (Num.up b a : Nat)) = true := by rw [show Num.up b a = Num.up a b by unfold Num.up; rw [Nat.add_comm]]; simp
  go_enter Try.func9, Try.ntmps9
  go_wp2_with (first | (go_at_call 11; refine (awake_any _).mono ?_; rintro e w' ⟨rfl, hx⟩) | (go_at_call 14; refine (add_any _ _ (by omega) (by omega) _).mono ?_; rintro e w' ⟨rfl, hx⟩) | (go_at_call 18; refine (mul_any _ _ (by omega) (by omega) _).mono ?_; rintro e w' ⟨rfl, hx⟩) | (go_at_call 15; refine (up_any _ _ (by omega) (by omega) _).mono ?_; rintro e w' ⟨rfl, hx⟩))
  go_ret
  exact ⟨rfl, (by repeat (first | assumption | exact Ext.refl _ | refine Ext.alloc ?_ _ | refine Ext.drew ?_ | refine Ext.drewN ?_ _ | refine Ext.trans (by assumption) ?_))⟩
set_option maxRecDepth 100000 in
theorem NumOrder_lifted (os : Os) (started : os.Started) (H : Type) (enc : TypeId × Value → H) :
    ReturnsInHanded {} Try.checked os 9 .any (Rows.numOrderSpec.pre6 enc Try.prog Try.f9 Rows.numOrderRow.domain false) (Rows.numOrderSpec.post enc Try.prog Try.f9 false true false false) := by
  refine returnsInHanded_of_change_sized (C := Try.checked) own started (by kernel_rfl) Try.func9
    (ChangeSpec.witness6 (enc := enc) (C := Try.checked) false ⟨#[], #[.int .u64 0, .int .u64 0], []⟩ 8 (by kernel_rfl) (by kernel_rfl) (by kernel_rfl) (by kernel_rfl)) ?_
  intro W base args ds gs before hval0 hW _hcnd hsz0 _
  have hval : ∀ (j : Nat) t v, Try.f9.params[j]? = some t → args[j]? = some v → Value.okWide Try.prog W .any base t v := hval0
  have hsz : (DataW.weightsEach Try.prog (Try.f9.params.toList ++ Rows.numOrderSpec.plain.varTypes Try.prog) (ds ++ gs)).all (· ≤ reachBytes) = true := hsz0
  have hW' := hW
  obtain ⟨p, q, hA0, hV, rfl, hfz, hnd⟩ := hW
  have hA : DataW.TrodAll enc Try.prog W 0 (fun _ => true) true Try.f9.params.toList args.toList ds p := hA0
  rw [Try.params9] at hA hval hsz
  obtain ⟨v0, vs0, d0, ds0, p0, q0, hargs, rfl, rfl, h0, r0⟩ := trodAll_cons hA
  obtain ⟨v1, vs1, d1, ds1, p1, q1, rfl, rfl, rfl, h1, r1⟩ := trodAll_cons r0
  obtain ⟨rfl, rfl, rfl⟩ := trodAll_nil r1
  obtain rfl : args = #[v0, v1] := by cases args; simp_all
  obtain ⟨rfl, rfl⟩ := trodVars_none hV
  have h0k := h0
  have h1k := h1
  have hlt0 : ∀ x ∈ p0, x.block < W.heap.size := fun x hx => by have := hW'.lt x (by simp [hx]); simpa using this
  have hlt1 : ∀ x ∈ p1, x.block < W.heap.size := fun x hx => by have := hW'.lt x (by simp [hx]); simpa using this
  obtain ⟨a, rfl, ha⟩ := open_U64 Try.underlying22 (hval 0 22 v0 rfl rfl) h0
  obtain ⟨b, rfl, hb⟩ := open_U64 Try.underlying22 (hval 1 22 v1 rfl rfl) h1
  clear hA0 hval0
  simp only [List.append_nil] at hW'
  refine (NumOrder_walk a ha b hb W).mono fun e W' ⟨he, hg⟩ => ?_
  subst he
  exact ⟨_, rfl, post_law (pa := p0 ++ (p1 ++ [])) (pv := []) hW' (fun _ _ _ => (trodAll_cons_mk (shut_bool Try.underlying4 _) trodAll_mk0))
    (trodAll_cons_mk (Below.trod laidOut (by kernel_rfl) (of_decide_eq_true (by kernel_rfl)) h0k hg.out hlt0) (trodAll_cons_mk (Below.trod laidOut (by kernel_rfl) (of_decide_eq_true (by kernel_rfl)) h1k hg.out hlt1) trodAll_mk0)) rfl (by simp) hg⟩
theorem NumOrder_holds : Rows.NumOrderSaid :=
  OpenClaim.holds_of_wide 9 Try.f9 rfl rfl rfl rfl rfl rfl rfl ⟨rfl, rfl, rfl, rfl, rfl⟩ rfl rfl rfl rfl rfl (by kernel_rfl) Try.func9 (by kernel_rfl)
    (of_decide_eq_true (by kernel_rfl)) (by unfold Func.isWrapper; first | (rw [if_pos (by decide +kernel)]; kernel_rfl) | (rw [if_neg (by decide +kernel)]; exact ⟨rfl, rfl⟩))
    (fun os started H enc _ => NumOrder_lifted os started H enc)
#print axioms NumOrder_holds
end Go.Proofs.Ythonlbimdbdfgaa
