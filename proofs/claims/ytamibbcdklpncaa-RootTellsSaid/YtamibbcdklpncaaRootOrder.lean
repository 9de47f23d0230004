/- RootOrder: of any two roots one is less, or they are the same; what is less than what is less is less. No conditions. -/
import Derived.Test.YtamibbcdklpncaaRootAwake
namespace Go.Proofs.Ytamibbcdklpncaa
open Go.RowKit Go.WideShapes Go.ChangeShapes Go.Joins Go.Deep
set_option linter.unusedVariables false
set_option linter.unusedSimpArgs false
set_option linter.unusedSectionVars false


theorem info_root {r : List Int} (h : RootOk r) : (Try.prog.info? 23).map (·.size) = some (rootC r).length := by rw [rootC_len h]; kernel_rfl
theorem box3 (w : World) (a b c : List Int) : ∃ w0, ((w.alloc (.cells (rootC a).toArray 23)).alloc (.cells (rootC b).toArray 23)).alloc (.cells (rootC c).toArray 23) = w0 ∧ Ext w w0 ∧
    w0.rangeAt w.heap.size 0 (rootC a) ∧ w0.rangeAt (w.heap.size + 1) 0 (rootC b) ∧ w0.rangeAt (w.heap.size + 1 + 1) 0 (rootC c) := by
  refine ⟨_, rfl, (by repeat (first | assumption | exact Ext.refl _ | refine Ext.alloc ?_ _ | refine Ext.drew ?_ | refine Ext.drewN ?_ _ | refine Ext.setCell ?_ (by first | (simp; done) | omega | (simp; omega)) _ | refine Ext.trans (by assumption) ?_)), ?_, ?_, ?_⟩
  · exact rangeAt_ext (range_new w (rootC a) _) (Ext.alloc (Ext.alloc (Ext.refl _) _) _)
  · exact rangeAt_ext (range_at (w := w.alloc (.cells (rootC a).toArray 23)) (rootC b) _ (by simp)) (Ext.alloc (Ext.refl _) _)
  · exact range_at (w := (w.alloc (.cells (rootC a).toArray 23)).alloc (.cells (rootC b).toArray 23)) (rootC c) _ (by simp)
set_option maxHeartbeats 4000000 in
theorem RootOrder_walk (a : List Int) (ha : RootOk a) (b : List Int) (hb : RootOk b) (c : List Int) (hc : RootOk c) (w : World) :
    Calls Try.prog 5 #[.agg (rootC a).toArray, .agg (rootC b).toArray, .agg (rootC c).toArray] w fun e' w' => e' = .returned (.bool true) ∧ Ext w w' := by
  have hia := info_root ha
  have hib := info_root hb
  have hic := info_root hc
  obtain ⟨w0, hw0, x0, ra, rb, rc⟩ := box3 w a b c
  have H1 := Lib.hid (fun W => less_any a b ha hb W)
  have H2 := Lib.hid (fun W => less_any b a hb ha W)
  have H3 := Lib.hid (fun W => less_any b c hb hc W)
  have H4 := Lib.hid (fun W => less_any a c ha hc W)
  cases h1 : Root.ltV a b with
  | true =>
    rw [h1] at H1
    rw [Root.lt_asymm h1] at H2
    have hq : ∀ W, (binOp .neq 23 (.agg (rootC a).toArray) (.agg (rootC b).toArray)).run Try.prog W = .ok (.bool true) W := fun W => root_neq ha hb (b := false) (by simp [Root.lt_ne h1]) W
    cases h3 : Root.ltV b c with
    | true =>
      rw [h3] at H3
      rw [Root.lt_trans h1 h3] at H4
      clear h1 h3
      go_enter Try.func5, Try.ntmps5
      go_wp2_with fail
      refine (awake_any _).mono ?_
      rintro e w1 ⟨rfl, x1⟩
      have y1 := x0.trans x1
      replace ra := rangeAt_ext ra x1
      replace rb := rangeAt_ext rb x1
      replace rc := rangeAt_ext rc x1
      clear x1
      go_wp2_with (((with_reducible refine at_load ?_); first | (refine wpList_load_grd rfl 23 _ rfl _ _ rfl (rootC a) _ ra Try.underlying23 rfl hia ?_) | (refine wpList_load_grd rfl 23 _ rfl _ _ rfl (rootC b) _ rb Try.underlying23 rfl hib ?_) | (refine wpList_load_grd rfl 23 _ rfl _ _ rfl (rootC c) _ rc Try.underlying23 rfl hic ?_)))
      refine (H1.out _).mono ?_
      rintro e w2 ⟨rfl, x2⟩
      have y2 := y1.trans x2
      replace ra := rangeAt_ext ra x2
      replace rb := rangeAt_ext rb x2
      replace rc := rangeAt_ext rc x2
      clear x2
      go_wp2_with (((with_reducible refine at_load ?_); first | (refine wpList_load_grd rfl 23 _ rfl _ _ rfl (rootC a) _ ra Try.underlying23 rfl hia ?_) | (refine wpList_load_grd rfl 23 _ rfl _ _ rfl (rootC b) _ rb Try.underlying23 rfl hib ?_) | (refine wpList_load_grd rfl 23 _ rfl _ _ rfl (rootC c) _ rc Try.underlying23 rfl hic ?_)))
      refine (H2.out _).mono ?_
      rintro e w3 ⟨rfl, x3⟩
      have y3 := y2.trans x3
      replace ra := rangeAt_ext ra x3
      replace rb := rangeAt_ext rb x3
      replace rc := rangeAt_ext rc x3
      clear x3
      go_wp2_with (((with_reducible refine at_load ?_); first | (refine wpList_load_grd rfl 23 _ rfl _ _ rfl (rootC a) _ ra Try.underlying23 rfl hia ?_) | (refine wpList_load_grd rfl 23 _ rfl _ _ rfl (rootC b) _ rb Try.underlying23 rfl hib ?_) | (refine wpList_load_grd rfl 23 _ rfl _ _ rfl (rootC c) _ rc Try.underlying23 rfl hic ?_)))
      refine (H3.out _).mono ?_
      rintro e w4 ⟨rfl, x4⟩
      have y4 := y3.trans x4
      replace ra := rangeAt_ext ra x4
      replace rb := rangeAt_ext rb x4
      replace rc := rangeAt_ext rc x4
      clear x4
      go_wp2_with (((with_reducible refine at_load ?_); first | (refine wpList_load_grd rfl 23 _ rfl _ _ rfl (rootC a) _ ra Try.underlying23 rfl hia ?_) | (refine wpList_load_grd rfl 23 _ rfl _ _ rfl (rootC b) _ rb Try.underlying23 rfl hib ?_) | (refine wpList_load_grd rfl 23 _ rfl _ _ rfl (rootC c) _ rc Try.underlying23 rfl hic ?_)))
      refine (H4.out _).mono ?_
      rintro e w5 ⟨rfl, x5⟩
      have y5 := y4.trans x5
      go_wp2
      go_ret
      exact ⟨rfl, y5⟩
    | false =>
      rw [h3] at H3
      clear h1 h3
      go_enter Try.func5, Try.ntmps5
      go_wp2_with fail
      refine (awake_any _).mono ?_
      rintro e w1 ⟨rfl, x1⟩
      have y1 := x0.trans x1
      replace ra := rangeAt_ext ra x1
      replace rb := rangeAt_ext rb x1
      replace rc := rangeAt_ext rc x1
      clear x1
      go_wp2_with (((with_reducible refine at_load ?_); first | (refine wpList_load_grd rfl 23 _ rfl _ _ rfl (rootC a) _ ra Try.underlying23 rfl hia ?_) | (refine wpList_load_grd rfl 23 _ rfl _ _ rfl (rootC b) _ rb Try.underlying23 rfl hib ?_) | (refine wpList_load_grd rfl 23 _ rfl _ _ rfl (rootC c) _ rc Try.underlying23 rfl hic ?_)))
      refine (H1.out _).mono ?_
      rintro e w2 ⟨rfl, x2⟩
      have y2 := y1.trans x2
      replace ra := rangeAt_ext ra x2
      replace rb := rangeAt_ext rb x2
      replace rc := rangeAt_ext rc x2
      clear x2
      go_wp2_with (((with_reducible refine at_load ?_); first | (refine wpList_load_grd rfl 23 _ rfl _ _ rfl (rootC a) _ ra Try.underlying23 rfl hia ?_) | (refine wpList_load_grd rfl 23 _ rfl _ _ rfl (rootC b) _ rb Try.underlying23 rfl hib ?_) | (refine wpList_load_grd rfl 23 _ rfl _ _ rfl (rootC c) _ rc Try.underlying23 rfl hic ?_)))
      refine (H2.out _).mono ?_
      rintro e w3 ⟨rfl, x3⟩
      have y3 := y2.trans x3
      replace ra := rangeAt_ext ra x3
      replace rb := rangeAt_ext rb x3
      replace rc := rangeAt_ext rc x3
      clear x3
      go_wp2_with (((with_reducible refine at_load ?_); first | (refine wpList_load_grd rfl 23 _ rfl _ _ rfl (rootC a) _ ra Try.underlying23 rfl hia ?_) | (refine wpList_load_grd rfl 23 _ rfl _ _ rfl (rootC b) _ rb Try.underlying23 rfl hib ?_) | (refine wpList_load_grd rfl 23 _ rfl _ _ rfl (rootC c) _ rc Try.underlying23 rfl hic ?_)))
      refine (H3.out _).mono ?_
      rintro e w4 ⟨rfl, x4⟩
      have y4 := y3.trans x4
      go_wp2
      go_ret
      exact ⟨rfl, y4⟩
  | false =>
    rw [h1] at H1
    cases h2 : Root.ltV b a with
    | true =>
      rw [h2] at H2
      have hq : ∀ W, (binOp .neq 23 (.agg (rootC a).toArray) (.agg (rootC b).toArray)).run Try.prog W = .ok (.bool true) W := fun W => root_neq ha hb (b := false) (by simp [(Root.lt_ne h2).symm]) W
      clear h1 h2
      go_enter Try.func5, Try.ntmps5
      go_wp2_with fail
      refine (awake_any _).mono ?_
      rintro e w1 ⟨rfl, x1⟩
      have y1 := x0.trans x1
      replace ra := rangeAt_ext ra x1
      replace rb := rangeAt_ext rb x1
      replace rc := rangeAt_ext rc x1
      clear x1
      go_wp2_with (((with_reducible refine at_load ?_); first | (refine wpList_load_grd rfl 23 _ rfl _ _ rfl (rootC a) _ ra Try.underlying23 rfl hia ?_) | (refine wpList_load_grd rfl 23 _ rfl _ _ rfl (rootC b) _ rb Try.underlying23 rfl hib ?_) | (refine wpList_load_grd rfl 23 _ rfl _ _ rfl (rootC c) _ rc Try.underlying23 rfl hic ?_)))
      refine (H1.out _).mono ?_
      rintro e w2 ⟨rfl, x2⟩
      have y2 := y1.trans x2
      replace ra := rangeAt_ext ra x2
      replace rb := rangeAt_ext rb x2
      replace rc := rangeAt_ext rc x2
      clear x2
      go_wp2_with (((with_reducible refine at_load ?_); first | (refine wpList_load_grd rfl 23 _ rfl _ _ rfl (rootC a) _ ra Try.underlying23 rfl hia ?_) | (refine wpList_load_grd rfl 23 _ rfl _ _ rfl (rootC b) _ rb Try.underlying23 rfl hib ?_) | (refine wpList_load_grd rfl 23 _ rfl _ _ rfl (rootC c) _ rc Try.underlying23 rfl hic ?_)))
      refine (H2.out _).mono ?_
      rintro e w3 ⟨rfl, x3⟩
      have y3 := y2.trans x3
      replace ra := rangeAt_ext ra x3
      replace rb := rangeAt_ext rb x3
      replace rc := rangeAt_ext rc x3
      clear x3
      go_wp2_with (((with_reducible refine at_load ?_); first | (refine wpList_load_grd rfl 23 _ rfl _ _ rfl (rootC a) _ ra Try.underlying23 rfl hia ?_) | (refine wpList_load_grd rfl 23 _ rfl _ _ rfl (rootC b) _ rb Try.underlying23 rfl hib ?_) | (refine wpList_load_grd rfl 23 _ rfl _ _ rfl (rootC c) _ rc Try.underlying23 rfl hic ?_)))
      go_ret
      exact ⟨rfl, y3⟩
    | false =>
      rw [h2] at H2
      have hq : ∀ W, (binOp .neq 23 (.agg (rootC a).toArray) (.agg (rootC b).toArray)).run Try.prog W = .ok (.bool false) W := fun W => root_neq ha hb (b := true) (by simp [Root.lt_total h1 h2]) W
      clear h1 h2
      go_enter Try.func5, Try.ntmps5
      go_wp2_with fail
      refine (awake_any _).mono ?_
      rintro e w1 ⟨rfl, x1⟩
      have y1 := x0.trans x1
      replace ra := rangeAt_ext ra x1
      replace rb := rangeAt_ext rb x1
      replace rc := rangeAt_ext rc x1
      clear x1
      go_wp2_with (((with_reducible refine at_load ?_); first | (refine wpList_load_grd rfl 23 _ rfl _ _ rfl (rootC a) _ ra Try.underlying23 rfl hia ?_) | (refine wpList_load_grd rfl 23 _ rfl _ _ rfl (rootC b) _ rb Try.underlying23 rfl hib ?_) | (refine wpList_load_grd rfl 23 _ rfl _ _ rfl (rootC c) _ rc Try.underlying23 rfl hic ?_)))
      refine (H1.out _).mono ?_
      rintro e w2 ⟨rfl, x2⟩
      have y2 := y1.trans x2
      replace ra := rangeAt_ext ra x2
      replace rb := rangeAt_ext rb x2
      replace rc := rangeAt_ext rc x2
      clear x2
      go_wp2_with (((with_reducible refine at_load ?_); first | (refine wpList_load_grd rfl 23 _ rfl _ _ rfl (rootC a) _ ra Try.underlying23 rfl hia ?_) | (refine wpList_load_grd rfl 23 _ rfl _ _ rfl (rootC b) _ rb Try.underlying23 rfl hib ?_) | (refine wpList_load_grd rfl 23 _ rfl _ _ rfl (rootC c) _ rc Try.underlying23 rfl hic ?_)))
      refine (H2.out _).mono ?_
      rintro e w3 ⟨rfl, x3⟩
      have y3 := y2.trans x3
      replace ra := rangeAt_ext ra x3
      replace rb := rangeAt_ext rb x3
      replace rc := rangeAt_ext rc x3
      clear x3
      go_wp2_with (((with_reducible refine at_load ?_); first | (refine wpList_load_grd rfl 23 _ rfl _ _ rfl (rootC a) _ ra Try.underlying23 rfl hia ?_) | (refine wpList_load_grd rfl 23 _ rfl _ _ rfl (rootC b) _ rb Try.underlying23 rfl hib ?_) | (refine wpList_load_grd rfl 23 _ rfl _ _ rfl (rootC c) _ rc Try.underlying23 rfl hic ?_)))
      go_ret
      exact ⟨rfl, y3⟩
set_option maxRecDepth 100000 in
theorem RootOrder_lifted (os : Os) (started : os.Started) (H : Type) (enc : TypeId × Value → H) :
    ReturnsInHanded {} Try.checked os 5 .any (Rows.rootOrderSpec.pre6 enc Try.prog Try.f5 Rows.rootOrderRow.domain false) (Rows.rootOrderSpec.post enc Try.prog Try.f5 false true false false) := by
  refine returnsInHanded_of_change_sized (C := Try.checked) own started (by kernel_rfl) Try.func5
    (ChangeSpec.witness6 (enc := enc) (C := Try.checked) false ⟨#[], #[.agg (rootC zeroR).toArray, .agg (rootC zeroR).toArray, .agg (rootC zeroR).toArray], []⟩ 8 (by kernel_rfl) (by kernel_rfl) (by kernel_rfl) (by kernel_rfl)) ?_
  intro W base args ds gs before hval0 hW _hcnd hsz0 _
  have hval : ∀ (j : Nat) t v, Try.f5.params[j]? = some t → args[j]? = some v → Value.okWide Try.prog W .any base t v := hval0
  have hsz : (DataW.weightsEach Try.prog (Try.f5.params.toList ++ Rows.rootOrderSpec.plain.varTypes Try.prog) (ds ++ gs)).all (· ≤ reachBytes) = true := hsz0
  have hW' := hW
  obtain ⟨p, q, hA0, hV, rfl, hfz, hnd⟩ := hW
  have hA : DataW.TrodAll enc Try.prog W 0 (fun _ => true) true Try.f5.params.toList args.toList ds p := hA0
  rw [Try.params5] at hA hval hsz
  obtain ⟨v0, vs0, d0, ds0, p0, q0, hargs, rfl, rfl, h0, r0⟩ := trodAll_cons hA
  obtain ⟨v1, vs1, d1, ds1, p1, q1, rfl, rfl, rfl, h1, r1⟩ := trodAll_cons r0
  obtain ⟨v2, vs2, d2, ds2, p2, q2, rfl, rfl, rfl, h2, r2⟩ := trodAll_cons r1
  obtain ⟨rfl, rfl, rfl⟩ := trodAll_nil r2
  obtain rfl : args = #[v0, v1, v2] := by cases args; simp_all
  obtain ⟨rfl, rfl⟩ := trodVars_none hV
  have h0k := h0
  have h1k := h1
  have h2k := h2
  have hlt0 : ∀ x ∈ p0, x.block < W.heap.size := fun x hx => by have := hW'.lt x (by simp [hx]); simpa using this
  have hlt1 : ∀ x ∈ p1, x.block < W.heap.size := fun x hx => by have := hW'.lt x (by simp [hx]); simpa using this
  have hlt2 : ∀ x ∈ p2, x.block < W.heap.size := fun x hx => by have := hW'.lt x (by simp [hx]); simpa using this
  obtain ⟨a, rfl, ha⟩ := open_root (hval 0 23 v0 rfl rfl) h0
  obtain ⟨b, rfl, hb⟩ := open_root (hval 1 23 v1 rfl rfl) h1
  obtain ⟨c, rfl, hc⟩ := open_root (hval 2 23 v2 rfl rfl) h2
  clear hA0 hval0
  simp only [List.append_nil] at hW'
  refine (RootOrder_walk a ha b hb c hc (w := W)).mono fun e W' ⟨he, hg⟩ => ?_
  subst he
  exact ⟨_, rfl, post_law (pa := p0 ++ (p1 ++ (p2 ++ []))) (pv := []) hW' (fun _ _ _ => (trodAll_cons_mk (shut_bool Try.underlying4 _) trodAll_mk0))
    (trodAll_cons_mk (Below.trod laidOut (by kernel_rfl) (of_decide_eq_true (by kernel_rfl)) h0k hg.out hlt0) (trodAll_cons_mk (Below.trod laidOut (by kernel_rfl) (of_decide_eq_true (by kernel_rfl)) h1k hg.out hlt1) (trodAll_cons_mk (Below.trod laidOut (by kernel_rfl) (of_decide_eq_true (by kernel_rfl)) h2k hg.out hlt2) trodAll_mk0))) rfl (by simp) hg⟩
theorem RootOrder_holds : Rows.RootOrderSaid :=
  OpenClaim.holds_of_wide 5 Try.f5 rfl rfl rfl rfl rfl rfl rfl ⟨rfl, rfl, rfl, rfl, rfl⟩ rfl rfl rfl rfl rfl (by kernel_rfl) Try.func5 (by kernel_rfl)
    (of_decide_eq_true (by kernel_rfl)) (by unfold Func.isWrapper; first | (rw [if_pos (by decide +kernel)]; kernel_rfl) | (rw [if_neg (by decide +kernel)]; exact ⟨rfl, rfl⟩))
    (fun os started H enc _ => RootOrder_lifted os started H enc)
#print axioms RootOrder_holds
end Go.Proofs.Ytamibbcdklpncaa
