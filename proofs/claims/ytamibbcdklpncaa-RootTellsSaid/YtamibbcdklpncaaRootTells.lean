/- RootTells: any two roots stand to one another, any are in order, any has the text, and any text is the root, as the document says. No conditions. -/
import Derived.Test.YtamibbcdklpncaaRootBack
import Derived.Test.YtamibbcdklpncaaRootRefText
import Derived.Test.YtamibbcdklpncaaRootRefOf
import Derived.Test.YtamibbcdklpncaaRootRefSort
namespace Go.Proofs.Ytamibbcdklpncaa
open Go.RowKit Go.WideShapes Go.ChangeShapes Go.Joins Go.Deep Go.Sort
set_option linter.unusedVariables false
set_option linter.unusedSimpArgs false
set_option linter.unusedSectionVars false










set_option maxHeartbeats 4000000 in
theorem RootTells_walk {w : World} (a : List Int) (ha : RootOk a) (b : List Int) (hb : RootOk b) (lA : Option Addr) (ln lc : Nat) (l : List (List Int)) (hl : RL w lA ln lc l) (s : ByteArray) (hs : s.size ≤ maxLen) :
    Calls Try.prog 3 #[.agg (rootC a).toArray, .agg (rootC b).toArray, .slice lA ln lc, .string s] w fun e' w' => e' = .returned (.bool true) ∧ Ext w w' := by
  have hlr := hl.row.room
  have HL := Lib.hid (fun W (kx : Ext w W) => hl.ext kx)
  clear hl
  have hia := info_root ha
  have hib := info_root hb
  obtain ⟨w0, hw0, x0, ra, rb⟩ := box2r w a b
  by_cases h1 : 100 < ln
  · have g1 : decide ((100 : Int) < (ln : Int)) = true := by rw [decide_eq_true_iff]; omega
    go_enter Try.func3, Try.ntmps3
    go_wp2_with fail
    refine (awake_any _).mono ?_
    rintro e w1 ⟨rfl, x1⟩
    have y1 := x0.trans x1
    go_wp2
    go_ret
    exact ⟨rfl, y1⟩
  · by_cases h2 : 200 < s.size
    · have g1 : decide ((100 : Int) < (ln : Int)) = false := by rw [decide_eq_false_iff_not]; omega
      have g2 : decide ((200 : Int) < (s.size : Int)) = true := by rw [decide_eq_true_iff]; omega
      go_enter Try.func3, Try.ntmps3
      go_wp2_with fail
      refine (awake_any _).mono ?_
      rintro e w1 ⟨rfl, x1⟩
      have y1 := x0.trans x1
      go_wp2
      go_ret
      exact ⟨rfl, y1⟩
    · have g1 : decide ((100 : Int) < (ln : Int)) = false := by rw [decide_eq_false_iff_not]; omega
      have g2 : decide ((200 : Int) < (s.size : Int)) = false := by rw [decide_eq_false_iff_not]; omega
      have HTA := Lib.hid (fun W => text_any a ha W)
      have HRT := Lib.hid (fun W => rtext_any a ha W)
      have HLE := Lib.hid (fun W => less_any a b ha hb W)
      have HRL := Lib.hid (fun W => rless_any a b ha hb W)
      have HOF := Lib.hid (fun W => rof_any s W)
      have HRO := Lib.hid (fun W => refOf_any s W)
      have hy : RootOk (Root.ofV s.data.toList).1 := Root.of_ok _
      have HSR := Lib.hid (Root.ref_sort l)
      generalize (Root.ofV s.data.toList).1 = y at *
      generalize (Root.ofV s.data.toList).2 = f at *
      generalize (⟨(Root.textV a).toArray⟩ : ByteArray) = SA at *
      generalize Root.ltV a b = q at *
      have hiy := info_root hy
      have hqy : ∀ W, (binOp .eql 23 (.agg (rootC y).toArray) (.agg (rootC y).toArray)).run Try.prog W = .ok (.bool true) W := fun W => root_eql hy hy (b := true) (by simp) W
      go_enter Try.func3, Try.ntmps3
      go_wp2_with fail
      refine (awake_any _).mono ?_
      rintro e w1 ⟨rfl, x1⟩
      have y1 := x0.trans x1
      replace ra := rangeAt_ext ra x1
      replace rb := rangeAt_ext rb x1
      clear x1
      go_wp2_with fail
      refine (HOF.out _).mono ?_
      rintro e w2 ⟨rfl, x2⟩
      have y2 := y1.trans x2
      have x2a := x2.alloc (.cells (rootC y).toArray 23)
      replace ra := rangeAt_ext ra x2a
      replace rb := rangeAt_ext rb x2a
      have rx := range_at (w := w2) (B := w2.heap.size) (rootC y) 23 rfl
      clear x2 x2a
      go_wp2_with ((with_reducible refine at_store ?_); refine wpList_store_mid rfl 23 _ _ rfl _ 0 (rootC y).toArray rfl rfl (there_at (by simp) _ (by rw [List.size_toArray, rootC_len hy]; decide)) (by rw [List.size_toArray]; exact hiy) (all_oneCell_toArray (root_one y)) ?_; rw [List.toList_toArray, setCells_at (by simp) (by rw [rootC_len hy]; rfl)])
      refine (HRO.out _).mono ?_
      rintro e w3 ⟨rfl, x3⟩
      have y3 := (y2.alloc (.cells (rootC y).toArray 23)).trans x3
      have x3a := x3.alloc (.cells (rootC y).toArray 23)
      replace ra := rangeAt_ext ra x3a
      replace rb := rangeAt_ext rb x3a
      replace rx := rangeAt_ext rx x3a
      have ry := range_at (w := w3) (B := w3.heap.size) (rootC y) 23 rfl
      have y3a := y3.alloc (.cells (rootC y).toArray 23)
      clear x3 x3a y3
      go_wp2_with (first | ((with_reducible refine at_store ?_); refine wpList_store_mid rfl 23 _ _ rfl _ 0 (rootC y).toArray rfl rfl (there_at (by simp) _ (by rw [List.size_toArray, rootC_len hy]; decide)) (by rw [List.size_toArray]; exact hiy) (all_oneCell_toArray (root_one y)) ?_; rw [List.toList_toArray, setCells_at (by simp) (by rw [rootC_len hy]; rfl)]) | ((with_reducible refine at_load ?_); first | (refine wpList_load_grd rfl 23 _ rfl _ _ rfl (rootC a) _ ra Try.underlying23 rfl hia ?_) | (refine wpList_load_grd rfl 23 _ rfl _ _ rfl (rootC b) _ rb Try.underlying23 rfl hib ?_)))
      refine (HRL.out _).mono ?_
      rintro e w4 ⟨rfl, x4⟩
      have y4 := y3a.trans x4
      replace ra := rangeAt_ext ra x4
      replace rb := rangeAt_ext rb x4
      replace rx := rangeAt_ext rx x4
      replace ry := rangeAt_ext ry x4
      clear x4 y3a
      go_wp2_with fail
      refine (sort_any lA ln lc l w4 (HL.out _ y4) (by omega)).mono ?_
      rintro e w5 ⟨⟨A5, n5, c5, rfl, h5⟩, x5⟩
      have y5 := y4.trans x5
      go_wp2_with fail
      refine (rsort_any lA ln lc l w5 (HL.out _ y5) (by omega)).mono ?_
      rintro e w6 ⟨⟨A6, n6, c6, rfl, h6⟩, x6⟩
      rw [← HSR.out] at h6
      have h56 := h5.ext x6
      go_wp2_with fail
      refine (same_self (Root.sortV l) A5 n5 c5 A6 n6 c6 w6 h56 h6).mono ?_
      rintro e w7 ⟨rfl, x7⟩
      have x47 := x5.trans (x6.trans x7)
      have y7 := y4.trans x47
      replace ra := rangeAt_ext ra x47
      replace rb := rangeAt_ext rb x47
      replace rx := rangeAt_ext rx x47
      replace ry := rangeAt_ext ry x47
      clear x5 x6 x7 x47 h5 h6 h56
      go_wp2
      refine wp_region_quiet_below (by kernel_rfl) (by kernel_rfl) ?_
      repeat (first | go_big_quiet_skip | (go_big_quiet_want; first | ((first | (refine quiet_load_mid 23 _ rfl _ _ rfl (rootC y) _ (fun W ⟨p, hp⟩ => hp ▸ rangeAt_ext rx (ext_regrown _ p)) Try.underlying23 rfl hiy ?_) | (refine quiet_load_mid 23 _ rfl _ _ rfl (rootC y) _ (fun W ⟨p, hp⟩ => hp ▸ rangeAt_ext ry (ext_regrown _ p)) Try.underlying23 rfl hiy ?_) | (refine quiet_load_mid 23 _ rfl _ _ rfl (rootC a) _ (fun W ⟨p, hp⟩ => hp ▸ rangeAt_ext ra (ext_regrown _ p)) Try.underlying23 rfl hia ?_) | (refine quiet_load_mid 23 _ rfl _ _ rfl (rootC b) _ (fun W ⟨p, hp⟩ => hp ▸ rangeAt_ext rb (ext_regrown _ p)) Try.underlying23 rfl hib ?_)); (try simp only [Act.put, List.setIfInBounds_toArray, List.set_cons_zero, List.set_cons_succ]); go_big_quiet_on) | (go_big_quiet_op; first | go_big_quiet_on | go_big_quiet_call (first | (go_at_call 16; exact regrown_ext (HLE.out _)) | (go_at_call 17; exact regrown_ext (HTA.out _)) | (go_at_call 18; exact regrown_ext (HRT.out _))))))
      refine wpQuiet_nil ?_
      intro _ hw'
      obtain ⟨pq, hw''⟩ := hw'
      subst hw''
      go_wp2
      go_ret
      exact ⟨rfl, y7.trans (ext_regrown _ _)⟩
set_option maxRecDepth 100000 in
theorem RootTells_lifted (os : Os) (started : os.Started) (H : Type) (enc : TypeId × Value → H) :
    ReturnsInHanded {} Try.checked os 3 .any (Rows.rootTellsSpec.pre6 enc Try.prog Try.f3 Rows.rootTellsRow.domain false) (Rows.rootTellsSpec.post enc Try.prog Try.f3 false true false false) := by
  refine returnsInHanded_of_change_sized (C := Try.checked) own started (by kernel_rfl) Try.func3
    (ChangeSpec.witness6 (enc := enc) (C := Try.checked) false ⟨#[], #[.agg (rootC zeroR).toArray, .agg (rootC zeroR).toArray, .slice none 0 0, .string ⟨#[]⟩], []⟩ 8 (by kernel_rfl) (by kernel_rfl) (by kernel_rfl) (by kernel_rfl)) ?_
  intro W base args ds gs before hval0 hW _hcnd hsz0 _
  have hval : ∀ (j : Nat) t v, Try.f3.params[j]? = some t → args[j]? = some v → Value.okWide Try.prog W .any base t v := hval0
  have hsz : (DataW.weightsEach Try.prog (Try.f3.params.toList ++ Rows.rootTellsSpec.plain.varTypes Try.prog) (ds ++ gs)).all (· ≤ reachBytes) = true := hsz0
  have hW' := hW
  obtain ⟨p, q, hA0, hV, rfl, hfz, hnd⟩ := hW
  have hA : DataW.TrodAll enc Try.prog W 0 (fun _ => true) true Try.f3.params.toList args.toList ds p := hA0
  rw [Try.params3] at hA hval hsz
  obtain ⟨v0, vs0, d0, ds0, p0, q0, hargs, rfl, rfl, h0, r0⟩ := trodAll_cons hA
  obtain ⟨v1, vs1, d1, ds1, p1, q1, rfl, rfl, rfl, h1, r1⟩ := trodAll_cons r0
  obtain ⟨v2, vs2, d2, ds2, p2, q2, rfl, rfl, rfl, h2, r2⟩ := trodAll_cons r1
  obtain ⟨v3, vs3, d3, ds3, p3, q3, rfl, rfl, rfl, h3, r3⟩ := trodAll_cons r2
  obtain ⟨rfl, rfl, rfl⟩ := trodAll_nil r3
  obtain rfl : args = #[v0, v1, v2, v3] := by cases args; simp_all
  obtain ⟨rfl, rfl⟩ := trodVars_none hV
  have h0k := h0
  have h1k := h1
  have h2k := h2
  have h3k := h3
  have hlt0 : ∀ x ∈ p0, x.block < W.heap.size := fun x hx => by have := hW'.lt x (by simp [hx]); simpa using this
  have hlt1 : ∀ x ∈ p1, x.block < W.heap.size := fun x hx => by have := hW'.lt x (by simp [hx]); simpa using this
  have hlt2 : ∀ x ∈ p2, x.block < W.heap.size := fun x hx => by have := hW'.lt x (by simp [hx]); simpa using this
  have hlt3 : ∀ x ∈ p3, x.block < W.heap.size := fun x hx => by have := hW'.lt x (by simp [hx]); simpa using this
  obtain ⟨a, rfl, ha⟩ := open_root (hval 0 23 v0 rfl rfl) h0
  obtain ⟨b, rfl, hb⟩ := open_root (hval 1 23 v1 rfl rfl) h1
  obtain ⟨lA, ln, lc, l, rfl, hl⟩ := open_roots (hval 2 24 v2 rfl rfl) h2 hsz (j := 2) rfl rfl
  obtain ⟨s, rfl, hs⟩ := open_str (hval 3 9 v3 rfl rfl) h3
  clear hA0 hval0
  simp only [List.append_nil] at hW'
  refine (RootTells_walk a ha b hb lA ln lc l hl s hs (w := W)).mono fun e W' ⟨he, hg⟩ => ?_
  subst he
  exact ⟨_, rfl, post_law (pa := p0 ++ (p1 ++ (p2 ++ (p3 ++ [])))) (pv := []) hW' (fun _ _ _ => (trodAll_cons_mk (shut_bool Try.underlying4 _) trodAll_mk0))
    (trodAll_cons_mk (Below.trod laidOut (by kernel_rfl) (of_decide_eq_true (by kernel_rfl)) h0k hg.out hlt0) (trodAll_cons_mk (Below.trod laidOut (by kernel_rfl) (of_decide_eq_true (by kernel_rfl)) h1k hg.out hlt1) (trodAll_cons_mk (Below.trod laidOut (by kernel_rfl) (of_decide_eq_true (by kernel_rfl)) h2k hg.out hlt2) (trodAll_cons_mk (Below.trod laidOut (by kernel_rfl) (of_decide_eq_true (by kernel_rfl)) h3k hg.out hlt3) trodAll_mk0)))) rfl (by simp) hg⟩
theorem RootTells_holds : Rows.RootTellsSaid :=
  OpenClaim.holds_of_wide 3 Try.f3 rfl rfl rfl rfl rfl rfl rfl ⟨rfl, rfl, rfl, rfl, rfl⟩ rfl rfl rfl rfl rfl (by kernel_rfl) Try.func3 (by kernel_rfl)
    (of_decide_eq_true (by kernel_rfl)) (by unfold Func.isWrapper; first | (rw [if_pos (by decide +kernel)]; kernel_rfl) | (rw [if_neg (by decide +kernel)]; exact ⟨rfl, rfl⟩))
    (fun os started H enc _ => RootTells_lifted os started H enc)
#print axioms RootTells_holds
end Go.Proofs.Ytamibbcdklpncaa
