/- RootDigits: a text has sixty-four digits, two for each byte, the greater one first. No conditions. -/
import Derived.Test.YtamibbcdklpncaaRootBack
namespace Go.Proofs.Ytamibbcdklpncaa
open Go.RowKit Go.WideShapes Go.ChangeShapes Go.Joins Go.Deep
set_option linter.unusedVariables false
set_option linter.unusedSimpArgs false
set_option linter.unusedSectionVars false






theorem quiet_index_as {P : Program} {o : Oper} {a : Act} {C : World → Prop} {next : Act → Prop} (t : TypeId) (x ix : Operand) (ho : o.op = .index t x ix) (v : Value) (hr : ∀ w, (Instr.index t (a.eval x) (a.eval ix)).run P w = .ok v w) (h : next (a.put o.dst v)) : o.quiet P a C next :=
  ⟨v, fun w hw => by
    unfold Oper.quietAt execOp
    simp only [ho, Sem.run_bind, hr, Result.andThen_ok]
    exact ⟨rfl, rfl⟩, h⟩
theorem str_at {l : List UInt8} {k : Nat} {b : UInt8} (h : l[k]? = some b) {z : Int} (hz : z = k) (W : World) : (Instr.index 9 (.string ⟨l.toArray⟩) (.int .i64 z)).run Try.prog W = .ok (.int .u8 b.toNat) W := by
  subst hz
  have hk := (List.getElem?_eq_some_iff.1 h).1
  have hs : (⟨l.toArray⟩ : ByteArray).size = l.length := by show l.toArray.size = l.length; simp
  rw [run_index_string _ _ _ _ _ Try.underlying9, dif_pos (by rw [hs]; omega)]
  exact congrArg (fun n : Nat => Result.ok (Value.int .u8 n) W) (str_index h (by rw [hs]; omega))
set_option maxHeartbeats 4000000 in
theorem RootDigits_walk (a : List Int) (ha : RootOk a) (i : Int) (i1 : -9223372036854775808 ≤ i) (i2 : i ≤ 9223372036854775807) (w : World) :
    Calls Try.prog 8 #[.agg (rootC a).toArray, .int .i64 i] w fun e' w' => e' = .returned (.bool true) ∧ Ext w w' := by
  have hia := info_root ha
  have HTA := Lib.hid (fun W => text_any a ha W)
  have hs : (⟨(Root.textV a).toArray⟩ : ByteArray).size = 64 := by show (Root.textV a).toArray.size = 64; simpa using Root.text_len64 ha
  obtain ⟨w0, hw0, x0, ra⟩ : ∃ w0, w.alloc (.cells (rootC a).toArray 23) = w0 ∧ Ext w w0 ∧ w0.rangeAt w.heap.size 0 (rootC a) := ⟨_, rfl, (by repeat (first | assumption | exact Ext.refl _ | refine Ext.alloc ?_ _ | refine Ext.drew ?_ | refine Ext.drewN ?_ _ | refine Ext.setCell ?_ (by first | (simp; done) | omega | (simp; omega)) _ | refine Ext.trans (by assumption) ?_)), range_new w (rootC a) _⟩
  by_cases h1 : i < 0
  · generalize (⟨(Root.textV a).toArray⟩ : ByteArray) = S at *
    go_enter Try.func8, Try.ntmps8
    go_wp2_with fail
    refine (awake_any _).mono ?_
    rintro e w1 ⟨rfl, x1⟩
    have y1 := x0.trans x1
    replace ra := rangeAt_ext ra x1
    clear x1
    go_wp2_with ((with_reducible refine at_load ?_); (refine wpList_load_grd rfl 23 _ rfl _ _ rfl (rootC a) _ ra Try.underlying23 rfl hia ?_))
    refine (HTA.out _).mono ?_
    rintro e w2 ⟨rfl, x2⟩
    have y2 := y1.trans x2
    replace ra := rangeAt_ext ra x2
    clear x2
    go_wp2
    go_ret
    exact ⟨rfl, y2⟩
  · by_cases h2 : 31 < i
    · generalize (⟨(Root.textV a).toArray⟩ : ByteArray) = S at *
      go_enter Try.func8, Try.ntmps8
      go_wp2_with fail
      refine (awake_any _).mono ?_
      rintro e w1 ⟨rfl, x1⟩
      have y1 := x0.trans x1
      replace ra := rangeAt_ext ra x1
      clear x1
      go_wp2_with ((with_reducible refine at_load ?_); (refine wpList_load_grd rfl 23 _ rfl _ _ rfl (rootC a) _ ra Try.underlying23 rfl hia ?_))
      refine (HTA.out _).mono ?_
      rintro e w2 ⟨rfl, x2⟩
      have y2 := y1.trans x2
      replace ra := rangeAt_ext ra x2
      clear x2
      go_wp2
      go_ret
      exact ⟨rfl, y2⟩
    · obtain ⟨k, rfl⟩ := Int.eq_ofNat_of_zero_le (show 0 ≤ i by omega)
      have hk : k < 32 := by omega
      obtain ⟨t1, t2⟩ := Root.text_get a k (by rw [ha.1]; exact hk)
      have hb := byte_range ha k
      have hc := root_range ha ra k hk
      have hS1 := fun W => str_at t1 (z := 2 * (k : Int)) (by omega) W
      have hS2 := fun W => str_at t2 (z := 2 * (k : Int) + 1) (by omega) W
      have HC := Lib.hid (fun W (h : World.rangeAt W w.heap.size 0 (rootC a)) => root_range ha h k hk)
      clear t1 t2 hc
      generalize nth a k = c at *
      have hD1 := fun W => dig_index (n := c / 16) (by omega) (by omega) W
      have hD2 := fun W => dig_index (n := c % 16) (by omega) (by omega) W
      rw [show (c / 16).toNat = c.toNat / 16 by omega] at hD1
      rw [show (c % 16).toNat = c.toNat % 16 by omega] at hD2
      generalize Root.dg (c.toNat / 16) = X at *
      generalize Root.dg (c.toNat % 16) = Y at *
      generalize (⟨(Root.textV a).toArray⟩ : ByteArray) = S at *
      go_enter Try.func8, Try.ntmps8
      go_wp2_with fail
      refine (awake_any _).mono ?_
      rintro e w1 ⟨rfl, x1⟩
      have y1 := x0.trans x1
      replace ra := rangeAt_ext ra x1
      clear x1
      go_wp2_with ((with_reducible refine at_load ?_); (refine wpList_load_grd rfl 23 _ rfl _ _ rfl (rootC a) _ ra Try.underlying23 rfl hia ?_))
      refine (HTA.out _).mono ?_
      rintro e w2 ⟨rfl, x2⟩
      have y2 := y1.trans x2
      replace ra := rangeAt_ext ra x2
      clear x2
      go_wp2
      have hcell := HC.out _ ra
      rw [Nat.zero_add] at hcell
      clear HC HTA hs ra
      refine wp_region_quiet_lit (by kernel_rfl) (by kernel_rfl) ?_
      repeat (first | go_big_quiet_skip | (go_big_quiet_want; first | ((first | (refine quiet_index_as _ _ _ rfl _ hS1 ?_) | (refine quiet_index_as _ _ _ rfl _ hS2 ?_) | (refine quiet_index_as _ _ _ rfl _ hD1 ?_) | (refine quiet_index_as _ _ _ rfl _ hD2 ?_)); (try simp only [Act.put, List.setIfInBounds_toArray, List.set_cons_zero, List.set_cons_succ]); go_big_quiet_on) | (go_big_quiet_op; first | go_big_quiet_on | go_big_quiet_call (fail))))
      refine wpQuiet_nil ?_
      intro _ hw'
      obtain ⟨nq', hw''⟩ := hw'
      subst hw''
      go_wp2
      go_ret
      exact ⟨rfl, (by repeat (first | assumption | exact Ext.refl _ | refine Ext.alloc ?_ _ | refine Ext.drew ?_ | refine Ext.drewN ?_ _ | refine Ext.setCell ?_ (by first | (simp; done) | omega | (simp; omega)) _ | refine Ext.trans (by assumption) ?_))⟩
set_option maxRecDepth 100000 in
theorem RootDigits_lifted (os : Os) (started : os.Started) (H : Type) (enc : TypeId × Value → H) :
    ReturnsInHanded {} Try.checked os 8 .any (Rows.rootDigitsSpec.pre6 enc Try.prog Try.f8 Rows.rootDigitsRow.domain false) (Rows.rootDigitsSpec.post enc Try.prog Try.f8 false true false false) := by
  refine returnsInHanded_of_change_sized (C := Try.checked) own started (by kernel_rfl) Try.func8
    (ChangeSpec.witness6 (enc := enc) (C := Try.checked) false ⟨#[], #[.agg (rootC zeroR).toArray, .int .i64 0], []⟩ 8 (by kernel_rfl) (by kernel_rfl) (by kernel_rfl) (by kernel_rfl)) ?_
  intro W base args ds gs before hval0 hW _hcnd hsz0 _
  have hval : ∀ (j : Nat) t v, Try.f8.params[j]? = some t → args[j]? = some v → Value.okWide Try.prog W .any base t v := hval0
  have hsz : (DataW.weightsEach Try.prog (Try.f8.params.toList ++ Rows.rootDigitsSpec.plain.varTypes Try.prog) (ds ++ gs)).all (· ≤ reachBytes) = true := hsz0
  have hW' := hW
  obtain ⟨p, q, hA0, hV, rfl, hfz, hnd⟩ := hW
  have hA : DataW.TrodAll enc Try.prog W 0 (fun _ => true) true Try.f8.params.toList args.toList ds p := hA0
  rw [Try.params8] at hA hval hsz
  obtain ⟨v0, vs0, d0, ds0, p0, q0, hargs, rfl, rfl, h0, r0⟩ := trodAll_cons hA
  obtain ⟨v1, vs1, d1, ds1, p1, q1, rfl, rfl, rfl, h1, r1⟩ := trodAll_cons r0
  obtain ⟨rfl, rfl, rfl⟩ := trodAll_nil r1
  obtain rfl : args = #[v0, v1] := by cases args; simp_all
  obtain ⟨rfl, rfl⟩ := trodVars_none hV
  have h0k := h0
  have h1k := h1
  have hlt0 : ∀ x ∈ p0, x.block < W.heap.size := fun x hx => by have := hW'.lt x (by simp [hx]); simpa using this
  have hlt1 : ∀ x ∈ p1, x.block < W.heap.size := fun x hx => by have := hW'.lt x (by simp [hx]); simpa using this
  obtain ⟨a, rfl, ha⟩ := open_root (hval 0 23 v0 rfl rfl) h0
  obtain ⟨i, rfl, hi1, hi2⟩ := open_I64 Try.underlying3 (hval 1 3 v1 rfl rfl) h1
  clear hA0 hval0
  simp only [List.append_nil] at hW'
  refine (RootDigits_walk a ha i hi1 hi2 (w := W)).mono fun e W' ⟨he, hg⟩ => ?_
  subst he
  exact ⟨_, rfl, post_law (pa := p0 ++ (p1 ++ [])) (pv := []) hW' (fun _ _ _ => (trodAll_cons_mk (shut_bool Try.underlying4 _) trodAll_mk0))
    (trodAll_cons_mk (Below.trod laidOut (by kernel_rfl) (of_decide_eq_true (by kernel_rfl)) h0k hg.out hlt0) (trodAll_cons_mk (Below.trod laidOut (by kernel_rfl) (of_decide_eq_true (by kernel_rfl)) h1k hg.out hlt1) trodAll_mk0)) rfl (by simp) hg⟩
theorem RootDigits_holds : Rows.RootDigitsSaid :=
  OpenClaim.holds_of_wide 8 Try.f8 rfl rfl rfl rfl rfl rfl rfl ⟨rfl, rfl, rfl, rfl, rfl⟩ rfl rfl rfl rfl rfl (by kernel_rfl) Try.func8 (by kernel_rfl)
    (of_decide_eq_true (by kernel_rfl)) (by unfold Func.isWrapper; first | (rw [if_pos (by decide +kernel)]; kernel_rfl) | (rw [if_neg (by decide +kernel)]; exact ⟨rfl, rfl⟩))
    (fun os started H enc _ => RootDigits_lifted os started H enc)
#print axioms RootDigits_holds
end Go.Proofs.Ytamibbcdklpncaa
