/- RootBack: a root's text is its own; what is read of a text has it; texts stand as roots do. No conditions. -/
import Derived.Test.YtamibbcdklpncaaRootOrder
import Derived.Test.YtamibbcdklpncaaQuietX
import Derived.ChangeMaps5
namespace Go.Proofs.Ytamibbcdklpncaa
open Go.RowKit Go.WideShapes Go.ChangeShapes Go.Joins Go.Deep
set_option linter.unusedVariables false
set_option linter.unusedSimpArgs false
set_option linter.unusedSectionVars false






theorem open_str {H : Type} {enc : TypeId × Value → H} {w : World} {b0 : Nat} {r : Reach} {v : Value} {d : DataW H} {ps : List MemPlace} (hval : Value.okWide Try.prog w r b0 9 v) (h : DataW.Trod enc Try.prog w 0 (fun _ => true) true 9 v d ps) : ∃ s : ByteArray, v = .string s ∧ s.size ≤ maxLen := by
  obtain ⟨s, h1, -, -, h2⟩ := ChangeMaps.open_string Try.underlying9 hval h
  exact ⟨s, h1, h2⟩
theorem box2r (w : World) (a b : List Int) : ∃ w0, (w.alloc (.cells (rootC a).toArray 23)).alloc (.cells (rootC b).toArray 23) = w0 ∧ Ext w w0 ∧
    w0.rangeAt w.heap.size 0 (rootC a) ∧ w0.rangeAt (w.heap.size + 1) 0 (rootC b) := by
  refine ⟨_, rfl, (by repeat (first | assumption | exact Ext.refl _ | refine Ext.alloc ?_ _ | refine Ext.drew ?_ | refine Ext.drewN ?_ _ | refine Ext.setCell ?_ (by first | (simp; done) | omega | (simp; omega)) _ | refine Ext.trans (by assumption) ?_)), ?_, ?_⟩
  · exact rangeAt_ext (range_new w (rootC a) _) (Ext.alloc (Ext.refl _) _)
  · exact range_at (w := w.alloc (.cells (rootC a).toArray 23)) (rootC b) _ (by simp)
theorem str_of {s : ByteArray} {l : List UInt8} (h : l = s.data.toList) : (⟨l.toArray⟩ : ByteArray) = s := by subst h; cases s; simp



set_option maxHeartbeats 4000000 in
theorem RootBack_walk (a : List Int) (ha : RootOk a) (b : List Int) (hb : RootOk b) (s : ByteArray) (hs : s.size ≤ maxLen) (w : World) :
    Calls Try.prog 4 #[.agg (rootC a).toArray, .agg (rootC b).toArray, .string s] w fun e' w' => e' = .returned (.bool true) ∧ Ext w w' := by
  have hia := info_root ha
  have hib := info_root hb
  obtain ⟨w0, hw0, x0, ra, rb⟩ := box2r w a b
  have HTA := Lib.hid (fun W => text_any a ha W)
  have HTB := Lib.hid (fun W => text_any b hb W)
  have HLE := Lib.hid (fun W => less_any a b ha hb W)
  have HOA := Lib.hid (fun W => rof_any ⟨(Root.textV a).toArray⟩ W)
  rw [show (⟨(Root.textV a).toArray⟩ : ByteArray).data.toList = Root.textV a by simp, Root.of_text ha] at HOA
  have hls : Op.bytesLess (⟨(Root.textV a).toArray⟩ : ByteArray).toList (⟨(Root.textV b).toArray⟩ : ByteArray).toList = Root.ltV a b := by
    rw [ByteArray.toList_eq, ByteArray.toList_eq]
    simpa using Root.less_text a b ha.2 hb.2 (by rw [ha.1, hb.1])
  simp only [] at HOA
  generalize (⟨(Root.textV a).toArray⟩ : ByteArray) = SA at *
  generalize (⟨(Root.textV b).toArray⟩ : ByteArray) = SB at *
  generalize Root.ltV a b = q at *
  have HOS := Lib.hid (fun W => rof_any s W)
  have hqa : ∀ W, (binOp .neq 23 (.agg (rootC a).toArray) (.agg (rootC a).toArray)).run Try.prog W = .ok (.bool false) W := fun W => root_neq ha ha (b := true) (by simp) W
  by_cases h200 : 200 < s.size
  · have g1 : decide ((200 : Int) < (s.size : Int)) = true := by rw [decide_eq_true_iff]; omega
    go_enter Try.func4, Try.ntmps4
    go_wp2_with fail
    refine (awake_any _).mono ?_
    rintro e w1 ⟨rfl, x1⟩
    have y1 := x0.trans x1
    go_wp2
    go_ret
    exact ⟨rfl, y1⟩
  · have g1 : decide ((200 : Int) < (s.size : Int)) = false := by rw [decide_eq_false_iff_not]; omega
    cases hf : Root.fits s.data.toList with
    | true =>
      have hy : RootOk (Root.ofV s.data.toList).1 := Root.of_ok _
      have HTY := Lib.hid (fun W => text_any (Root.ofV s.data.toList).1 hy W)
      rw [str_of (Root.text_of hf)] at HTY
      have e2 : (Root.ofV s.data.toList).2 = true := by rw [Root.of_snd, hf]
      rw [e2] at HOS
      clear e2 hf
      generalize (Root.ofV s.data.toList).1 = y at *
      have hiy := info_root hy
      go_enter Try.func4, Try.ntmps4
      go_wp2_with fail
      refine (awake_any _).mono ?_
      rintro e w1 ⟨rfl, x1⟩
      have y1 := x0.trans x1
      replace ra := rangeAt_ext ra x1
      replace rb := rangeAt_ext rb x1
      clear x1
      go_wp2_with ((with_reducible refine at_load ?_); first | (refine wpList_load_grd rfl 23 _ rfl _ _ rfl (rootC a) _ ra Try.underlying23 rfl hia ?_) | (refine wpList_load_grd rfl 23 _ rfl _ _ rfl (rootC b) _ rb Try.underlying23 rfl hib ?_))
      refine (HTA.out _).mono ?_
      rintro e w2 ⟨rfl, x2⟩
      have y2 := y1.trans x2
      replace ra := rangeAt_ext ra x2
      replace rb := rangeAt_ext rb x2
      clear x2
      go_wp2_with fail
      refine (HOA.out _).mono ?_
      rintro e w3 ⟨rfl, x3⟩
      have y3 := y2.trans x3
      have x3a := x3.alloc (.cells (rootC a).toArray 23)
      replace ra := rangeAt_ext ra x3a
      replace rb := rangeAt_ext rb x3a
      have rx := range_at (w := w3) (B := w3.heap.size) (rootC a) 23 rfl
      clear x3 x3a
      go_wp2_with ((with_reducible refine at_store ?_); refine wpList_store_mid rfl 23 _ _ rfl _ 0 (rootC a).toArray rfl rfl (there_at (by simp) _ (by rw [List.size_toArray, rootC_len ha]; decide)) (by rw [List.size_toArray]; exact hia) (all_oneCell_toArray (root_one a)) ?_; rw [List.toList_toArray, setCells_at (by simp) (by rw [rootC_len ha]; rfl)])
      refine (HOS.out _).mono ?_
      rintro e w4 ⟨rfl, x4⟩
      have y4 := (y3.alloc (.cells (rootC a).toArray 23)).trans x4
      have x4a := x4.alloc (.cells (rootC y).toArray 23)
      replace ra := rangeAt_ext ra x4a
      replace rb := rangeAt_ext rb x4a
      replace rx := rangeAt_ext rx x4a
      have ry := range_at (w := w4) (B := w4.heap.size) (rootC y) 23 rfl
      have y4a := y4.alloc (.cells (rootC y).toArray 23)
      clear x4 x4a y4
      go_wp2_with (first | ((with_reducible refine at_store ?_); refine wpList_store_mid rfl 23 _ _ rfl _ 0 (rootC y).toArray rfl rfl (there_at (by simp) _ (by rw [List.size_toArray, rootC_len hy]; decide)) (by rw [List.size_toArray]; exact hiy) (all_oneCell_toArray (root_one y)) ?_; rw [List.toList_toArray, setCells_at (by simp) (by rw [rootC_len hy]; rfl)]) | ((with_reducible refine at_load ?_); first | (refine wpList_load_grd rfl 23 _ rfl _ _ rfl (rootC a) _ ra Try.underlying23 rfl hia ?_) | (refine wpList_load_grd rfl 23 _ rfl _ _ rfl (rootC b) _ rb Try.underlying23 rfl hib ?_) | (refine wpList_load_grd rfl 23 _ rfl _ _ rfl (rootC a) _ rx Try.underlying23 rfl hia ?_) | (refine wpList_load_grd rfl 23 _ rfl _ _ rfl (rootC y) _ ry Try.underlying23 rfl hiy ?_)) | ((with_reducible refine at_build ?_); refine wpList_build_grd rfl _ _ rfl _ (by simp only [List.map_toArray, List.map_cons, List.map_nil, Act.eval]; exact hb0) ?_))
      refine (HTY.out _).mono ?_
      rintro e w5 ⟨rfl, x5⟩
      have y5 := y4a.trans x5
      replace ra := rangeAt_ext ra x5
      replace rb := rangeAt_ext rb x5
      clear x5 rx ry y4a
      go_wp2
      obtain ⟨W5, hW5⟩ : ∃ W5, w5 = W5 := ⟨_, rfl⟩
      rw [hW5] at ra rb y5 ⊢
      clear hW5
      refine wp_region_quiet_below (by kernel_rfl) (by kernel_rfl) ?_
      repeat (first | go_big_quiet_skip | (go_big_quiet_want; first | ((first | (refine quiet_load_mid 23 _ rfl _ _ rfl (rootC a) _ (fun W ⟨p, hp⟩ => hp ▸ rangeAt_ext ra (ext_regrown _ p)) Try.underlying23 rfl hia ?_) | (refine quiet_load_mid 23 _ rfl _ _ rfl (rootC b) _ (fun W ⟨p, hp⟩ => hp ▸ rangeAt_ext rb (ext_regrown _ p)) Try.underlying23 rfl hib ?_)); (try simp only [Act.put, List.setIfInBounds_toArray, List.set_cons_zero, List.set_cons_succ]); go_big_quiet_on) | (go_big_quiet_op; first | go_big_quiet_on | go_big_quiet_call (first | (go_at_call 17; exact regrown_ext (HTB.out _)) | (go_at_call 16; exact regrown_ext (HLE.out _))))))
      refine wpQuiet_nil ?_
      intro _ hw'
      obtain ⟨pq, hw''⟩ := hw'
      subst hw''
      go_wp2
      go_ret
      exact ⟨rfl, y5.trans (ext_regrown _ _)⟩
    | false =>
      rw [Root.of_false hf] at HOS
      clear hf
      obtain ⟨y, ey⟩ : ∃ y, y = zeroR := ⟨_, rfl⟩
      have hy : RootOk y := by rw [ey]; exact zeroR_ok
      have hb0 := built0
      have hiy := info_root hy
      simp only [] at HOS
      rw [← ey] at HOS hb0
      have hqy : ∀ W, (binOp .neq 23 (.agg (rootC y).toArray) (.agg (rootC y).toArray)).run Try.prog W = .ok (.bool false) W := fun W => root_neq hy hy (b := true) (by simp) W
      clear ey
      go_enter Try.func4, Try.ntmps4
      go_wp2_with fail
      refine (awake_any _).mono ?_
      rintro e w1 ⟨rfl, x1⟩
      have y1 := x0.trans x1
      replace ra := rangeAt_ext ra x1
      replace rb := rangeAt_ext rb x1
      clear x1
      go_wp2_with ((with_reducible refine at_load ?_); first | (refine wpList_load_grd rfl 23 _ rfl _ _ rfl (rootC a) _ ra Try.underlying23 rfl hia ?_) | (refine wpList_load_grd rfl 23 _ rfl _ _ rfl (rootC b) _ rb Try.underlying23 rfl hib ?_))
      refine (HTA.out _).mono ?_
      rintro e w2 ⟨rfl, x2⟩
      have y2 := y1.trans x2
      replace ra := rangeAt_ext ra x2
      replace rb := rangeAt_ext rb x2
      clear x2
      go_wp2_with fail
      refine (HOA.out _).mono ?_
      rintro e w3 ⟨rfl, x3⟩
      have y3 := y2.trans x3
      have x3a := x3.alloc (.cells (rootC a).toArray 23)
      replace ra := rangeAt_ext ra x3a
      replace rb := rangeAt_ext rb x3a
      have rx := range_at (w := w3) (B := w3.heap.size) (rootC a) 23 rfl
      clear x3 x3a
      go_wp2_with ((with_reducible refine at_store ?_); refine wpList_store_mid rfl 23 _ _ rfl _ 0 (rootC a).toArray rfl rfl (there_at (by simp) _ (by rw [List.size_toArray, rootC_len ha]; decide)) (by rw [List.size_toArray]; exact hia) (all_oneCell_toArray (root_one a)) ?_; rw [List.toList_toArray, setCells_at (by simp) (by rw [rootC_len ha]; rfl)])
      refine (HOS.out _).mono ?_
      rintro e w4 ⟨rfl, x4⟩
      have y4 := (y3.alloc (.cells (rootC a).toArray 23)).trans x4
      have x4a := x4.alloc (.cells (rootC y).toArray 23)
      replace ra := rangeAt_ext ra x4a
      replace rb := rangeAt_ext rb x4a
      replace rx := rangeAt_ext rx x4a
      have ry := range_at (w := w4) (B := w4.heap.size) (rootC y) 23 rfl
      have y4a := y4.alloc (.cells (rootC y).toArray 23)
      clear x4 x4a y4
      go_wp2_with (first | ((with_reducible refine at_store ?_); refine wpList_store_mid rfl 23 _ _ rfl _ 0 (rootC y).toArray rfl rfl (there_at (by simp) _ (by rw [List.size_toArray, rootC_len hy]; decide)) (by rw [List.size_toArray]; exact hiy) (all_oneCell_toArray (root_one y)) ?_; rw [List.toList_toArray, setCells_at (by simp) (by rw [rootC_len hy]; rfl)]) | ((with_reducible refine at_load ?_); first | (refine wpList_load_grd rfl 23 _ rfl _ _ rfl (rootC a) _ ra Try.underlying23 rfl hia ?_) | (refine wpList_load_grd rfl 23 _ rfl _ _ rfl (rootC b) _ rb Try.underlying23 rfl hib ?_) | (refine wpList_load_grd rfl 23 _ rfl _ _ rfl (rootC a) _ rx Try.underlying23 rfl hia ?_) | (refine wpList_load_grd rfl 23 _ rfl _ _ rfl (rootC y) _ ry Try.underlying23 rfl hiy ?_)) | ((with_reducible refine at_build ?_); refine wpList_build_grd rfl _ _ rfl _ (by simp only [List.map_toArray, List.map_cons, List.map_nil, Act.eval]; exact hb0) ?_))
      have y5 := y4a
      clear rx ry y4a
      obtain ⟨W5, hW5⟩ : ∃ W5, w4.alloc (.cells (rootC y).toArray 23) = W5 := ⟨_, rfl⟩
      rw [hW5] at ra rb y5 ⊢
      clear hW5
      refine wp_region_quiet_below (by kernel_rfl) (by kernel_rfl) ?_
      repeat (first | go_big_quiet_skip | (go_big_quiet_want; first | ((first | (refine quiet_load_mid 23 _ rfl _ _ rfl (rootC a) _ (fun W ⟨p, hp⟩ => hp ▸ rangeAt_ext ra (ext_regrown _ p)) Try.underlying23 rfl hia ?_) | (refine quiet_load_mid 23 _ rfl _ _ rfl (rootC b) _ (fun W ⟨p, hp⟩ => hp ▸ rangeAt_ext rb (ext_regrown _ p)) Try.underlying23 rfl hib ?_)); (try simp only [Act.put, List.setIfInBounds_toArray, List.set_cons_zero, List.set_cons_succ]); go_big_quiet_on) | (go_big_quiet_op; first | go_big_quiet_on | go_big_quiet_call (first | (go_at_call 17; exact regrown_ext (HTB.out _)) | (go_at_call 16; exact regrown_ext (HLE.out _))))))
      refine wpQuiet_nil ?_
      intro _ hw'
      obtain ⟨pq, hw''⟩ := hw'
      subst hw''
      go_wp2
      go_ret
      exact ⟨rfl, y5.trans (ext_regrown _ _)⟩
set_option maxRecDepth 100000 in
theorem RootBack_lifted (os : Os) (started : os.Started) (H : Type) (enc : TypeId × Value → H) :
    ReturnsInHanded {} Try.checked os 4 .any (Rows.rootBackSpec.pre6 enc Try.prog Try.f4 Rows.rootBackRow.domain false) (Rows.rootBackSpec.post enc Try.prog Try.f4 false true false false) := by
  refine returnsInHanded_of_change_sized (C := Try.checked) own started (by kernel_rfl) Try.func4
    (ChangeSpec.witness6 (enc := enc) (C := Try.checked) false ⟨#[], #[.agg (rootC zeroR).toArray, .agg (rootC zeroR).toArray, .string ⟨#[]⟩], []⟩ 8 (by kernel_rfl) (by kernel_rfl) (by kernel_rfl) (by kernel_rfl)) ?_
  intro W base args ds gs before hval0 hW _hcnd hsz0 _
  have hval : ∀ (j : Nat) t v, Try.f4.params[j]? = some t → args[j]? = some v → Value.okWide Try.prog W .any base t v := hval0
  have hsz : (DataW.weightsEach Try.prog (Try.f4.params.toList ++ Rows.rootBackSpec.plain.varTypes Try.prog) (ds ++ gs)).all (· ≤ reachBytes) = true := hsz0
  have hW' := hW
  obtain ⟨p, q, hA0, hV, rfl, hfz, hnd⟩ := hW
  have hA : DataW.TrodAll enc Try.prog W 0 (fun _ => true) true Try.f4.params.toList args.toList ds p := hA0
  rw [Try.params4] at hA hval hsz
  obtain ⟨v0, vs0, d0, ds0, p0, q0, hargs, rfl, rfl, h0, r0⟩ := trodAll_cons hA
  obtain ⟨v1, vs1, d1, ds1, p1, q1, rfl, rfl, rfl, h1, r1⟩ := trodAll_cons r0
  obtain ⟨v2, vs2, d2, ds2, p2, q2, rfl, rfl, rfl, h2, r2⟩ := trodAll_cons r1
  obtain ⟨rfl, rfl, rfl⟩ := trodAll_nil r2
  obtain rfl : args = #[v0, v1, v2] := by cases args; simp_all
  obtain ⟨rfl, rfl⟩ := trodVars_none hV
  have h0k := h0
  have h1k := h1
  have h2k := h2
  have hlt0 : ∀ x ∈ p0, x.block < W.heap.size := fun x hx => by have := hW'.lt x (by simp [hx]); simpa using this
  have hlt1 : ∀ x ∈ p1, x.block < W.heap.size := fun x hx => by have := hW'.lt x (by simp [hx]); simpa using this
  have hlt2 : ∀ x ∈ p2, x.block < W.heap.size := fun x hx => by have := hW'.lt x (by simp [hx]); simpa using this
  obtain ⟨a, rfl, ha⟩ := open_root (hval 0 23 v0 rfl rfl) h0
  obtain ⟨b, rfl, hb⟩ := open_root (hval 1 23 v1 rfl rfl) h1
  obtain ⟨s, rfl, hs⟩ := open_str (hval 2 9 v2 rfl rfl) h2
  clear hA0 hval0
  simp only [List.append_nil] at hW'
  refine (RootBack_walk a ha b hb s hs (w := W)).mono fun e W' ⟨he, hg⟩ => ?_
  subst he
  exact ⟨_, rfl, post_law (pa := p0 ++ (p1 ++ (p2 ++ []))) (pv := []) hW' (fun _ _ _ => (trodAll_cons_mk (shut_bool Try.underlying4 _) trodAll_mk0))
    (trodAll_cons_mk (Below.trod laidOut (by kernel_rfl) (of_decide_eq_true (by kernel_rfl)) h0k hg.out hlt0) (trodAll_cons_mk (Below.trod laidOut (by kernel_rfl) (of_decide_eq_true (by kernel_rfl)) h1k hg.out hlt1) (trodAll_cons_mk (Below.trod laidOut (by kernel_rfl) (of_decide_eq_true (by kernel_rfl)) h2k hg.out hlt2) trodAll_mk0))) rfl (by simp) hg⟩
theorem RootBack_holds : Rows.RootBackSaid :=
  OpenClaim.holds_of_wide 4 Try.f4 rfl rfl rfl rfl rfl rfl rfl ⟨rfl, rfl, rfl, rfl, rfl⟩ rfl rfl rfl rfl rfl (by kernel_rfl) Try.func4 (by kernel_rfl)
    (of_decide_eq_true (by kernel_rfl)) (by unfold Func.isWrapper; first | (rw [if_pos (by decide +kernel)]; kernel_rfl) | (rw [if_neg (by decide +kernel)]; exact ⟨rfl, rfl⟩))
    (fun os started H enc _ => RootBack_lifted os started H enc)
#print axioms RootBack_holds
end Go.Proofs.Ytamibbcdklpncaa
