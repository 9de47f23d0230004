/- TreeLast: what is put is a leaf, all that were above its parent are above it, and who was above whom is so still; for every tree, block and two places. -/
import Derived.Test.YtoifhpcpahfddaaTreeAwake
import Derived.Test.YtoifhpcpahfddaaTreePutLaw
import Derived.Test.YtoifhpcpahfddaaQuietX
namespace Go.Proofs.Ytoifhpcpahfddaa
open Go.RowKit Go.WideShapes Go.ChangeShapes Go.Sort
set_option linter.unusedVariables false
set_option linter.unusedSimpArgs false
set_option linter.unusedSectionVars false






theorem add_range_block {w : World} {B : Nat} {b : Block} (h : w.rangeAt B 0 b.cells) (hb : b.Ok) : w.rangeAt B 0 (rootC b.root) ∧ w.rangeAt B 32 (rootC b.up) ∧ w.cell? ⟨B, 64, none⟩ = some (.int .u64 b.slot) ∧ w.cell? ⟨B, 65, none⟩ = some (.int .u64 b.just) := by
  have hr := rootC_len hb.1
  have hu := rootC_len hb.2.1
  refine ⟨?_, ?_, ?_, ?_⟩
  · exact rangeAt_part (xs := []) (ys := rootC b.root) (zs := rootC b.up ++ [Value.int .u64 b.slot, Value.int .u64 b.just]) (k := 0) (by rw [List.nil_append, ← List.append_assoc]; exact h) rfl
  · have := rangeAt_part (xs := rootC b.root) (ys := rootC b.up) (zs := [Value.int .u64 b.slot, Value.int .u64 b.just]) (k := 32) h hr
    rwa [Nat.zero_add] at this
  · have := rangeAt_head h (j := 64) (v := .int .u64 b.slot) (by unfold Block.cells; simp [hr, hu])
    rwa [Nat.zero_add] at this
  · have := rangeAt_head h (j := 65) (v := .int .u64 b.just) (by unfold Block.cells; simp [hr, hu])
    rwa [Nat.zero_add] at this
set_option maxRecDepth 100000 in
set_option maxHeartbeats 4000000 in
theorem TreeLast_walk {w : World} (tA : Option Addr) (tn tc : Nat) (t : List Node) (ht : NL w tA tn tc t) (b : Block) (hb : b.Ok) (i : Int) (i1 : -9223372036854775808 ≤ i) (i2 : i ≤ 9223372036854775807) (k : Int) (kk1 : -9223372036854775808 ≤ k) (kk2 : k ≤ 9223372036854775807) :
    Calls Try.prog 8 #[.agg #[.slice tA tn tc], .agg b.cells.toArray, .int .i64 i, .int .i64 k] w fun e' w' => e' = .returned (.bool true) ∧ Ext w w' := by
  have hlen := ht.len
  have hroom := ht.row.room
  have HAW := Lib.hid (fun W => awake_any W)
  have HV := Lib.hid (fun W (k : Ext w W) => ht.ext k)
  have HM := Lib.hid (fun b (hb : Tree.mayV t = b) W (k : Ext w W) => treeMay_is tA tn tc t b hb W (ht.ext k))
  have hb66 : (Try.prog.info? 44).map (·.size) = some b.cells.length := by rw [Block.len hb]; kernel_rfl
  have hu32 : (Try.prog.info? 32).map (·.size) = some (rootC b.up).length := by rw [rootC_len hb.2.1]; kernel_rfl
  have HIN := Lib.hid (fun W (kx : Ext w W) => insert_any tA tn tc t b hb W (ht.ext kx))
  have HBO := Lib.hid hb
  by_cases hE : Tree.putE t b = 0
  · by_cases hok : (0 ≤ i ∧ i < tn) ∧ 0 ≤ k ∧ k < tn
    · obtain ⟨⟨pi, qi⟩, pk, qk⟩ := hok
      obtain ⟨i, rfl⟩ := Int.eq_ofNat_of_zero_le pi
      obtain ⟨k, rfl⟩ := Int.eq_ofNat_of_zero_le pk
      have li : i < t.length := by omega
      have lk : k < t.length := by omega
      obtain ⟨p, hp, hpl, _, hfp, _⟩ := Tree.put_p hE
      obtain ⟨hm, _⟩ := Tree.put_ok hE
      have h12 := Tree.len_le hm
      rw [hlen] at h12
      have hpm := Tree.put_may hE
      have hplen := Tree.put_len hE
      have HPL := Lib.hid hplen
      obtain ⟨v1, hv1⟩ : ∃ v, Tree.aboveV t (i : Int) (p : Int) = v := ⟨_, rfl⟩
      obtain ⟨v2, hv2⟩ : ∃ v, Tree.aboveV t (i : Int) (k : Int) = v := ⟨_, rfl⟩
      have a1 := (Tree.above_last hE li hp hpl).trans hv1
      have a2 := (Tree.above_still hE li lk).trans hv2
      have a3 := Tree.above_not hE li
      have a4 := Tree.at_last hE
      have a5 := Tree.no_kids hE
      have a6 := Tree.isV_in hpm (i := (t.length : Int)) (by omega) (by omega)
      rw [hlen] at a1 a3 a4 a5 a6
      have wi := wf_i64 i1 i2
      have wk := wf_i64 kk1 kk2
      have wp : (Lit.int .i64 (p : Int)).wf = true := wf_i64 (by omega) (by omega)
      have wn : (Lit.int .i64 (tn : Int)).wf = true := wf_i64 (by omega) (by omega)
      have HF := Lib.hid (fun W (kx : Ext w W) => find_is tA tn tc t b.up hb.2.1 p hfp W (ht.ext kx))
      have HT1 := Lib.hid (fun W (kx : Ext w W) => above_is tA tn tc t i p wi wp v1 hv1 W (ht.ext kx))
      have HT2 := Lib.hid (fun W (kx : Ext w W) => above_is tA tn tc t i k wi wk v2 hv2 W (ht.ext kx))
      have hbs := hb.2.2.1
      have HA4 := Lib.hid a4
      have HA1 := Lib.hid a1
      have HA2 := Lib.hid a2
      have HA3 := Lib.hid a3
      have HA5 := Lib.hid a5
      have HA6 := Lib.hid a6
      rw [hE] at HIN
      have r1 : decide ((i : Int) < 0) = false := decide_eq_false (by omega)
      have r2 : decide ((k : Int) < 0) = false := decide_eq_false (by omega)
      have s1 : decide (tn ≤ i) = false := decide_eq_false (by omega)
      have s2 : decide (tn ≤ k) = false := decide_eq_false (by omega)
      have gv1 : (v1 == v1) = true := by simp
      have gv2 : (v2 == v2) = true := by simp
      have gp : (p : Int) < tn := by omega
      clear hE hp hpl hfp hm hpm hplen hv1 hv2 a1 a2 a3 a4 a5 a6 ht hb
      go_enter Try.func8, Try.ntmps8
      try simp only [List.append_eq, List.cons_append, List.nil_append]
      go_wp2_with fail
      refine (HAW.out _).mono ?_
      rintro e0 w0 ⟨rfl, hx0⟩
      have k0 : Ext w w0 := Ext.trans ((by repeat (first | assumption | exact Ext.refl _ | refine Ext.alloc ?_ _ | refine Ext.drew ?_ | refine Ext.drewN ?_ _ | refine Ext.setCell ?_ (by first | (simp; done) | omega | (simp; omega)) _ | refine Ext.trans (by assumption) ?_))) hx0
      have t0 := hx0.cell (p := ⟨w.heap.size, 0, none⟩) (v := .slice tA tn tc) (by first | (simp; done) | (simp (maxDischargeDepth := 7) [go_sem]; done))
      clear HAW HM
      have rB0 : w0.rangeAt (w.heap.size + 1) 0 b.cells := rangeAt_ext (range_at (w := w.alloc (.cells #[.slice tA tn tc] 24)) (B := w.heap.size + 1) b.cells 44 (by simp)) hx0
      have tl := lt_of_cell t0
      go_wp2_with (refine wpList_load_mid rfl 44 _ rfl _ _ rfl b.cells _ rB0 Try.underlying44 rfl hb66 ?_)
      refine (HIN.out _ k0).mono ?_
      rintro e1 w1 ⟨⟨A2, m, c2, rfl, h2⟩, hx1⟩
      have k1 := k0.trans hx1
      replace t0 := hx1.cell t0
      have rB1 := rangeAt_ext rB0 hx1
      clear rB0
      replace tl := lt_of_cell t0
      have hm2 := h2.len
      obtain rfl : m = tn + 1 := by rw [← hm2, HPL.out, hlen]
      clear hm2
      have H2 := Lib.hid (fun W (kx : Ext w1 W) => h2.ext kx)
      obtain ⟨rR, rU, dS, dJ⟩ := add_range_block rB1 HBO.out
      clear h2 rB1 rR dJ
      go_upto_region 6 with fail
      obtain ⟨wb, hwb⟩ : ∃ wb, w1.alloc (.cells #[.slice A2 (tn + 1) c2] 24) = wb := ⟨_, rfl⟩
      have xb : Ext w1 wb := by rw [← hwb]; exact (by repeat (first | assumption | exact Ext.refl _ | refine Ext.alloc ?_ _ | refine Ext.drew ?_ | refine Ext.drewN ?_ _ | refine Ext.setCell ?_ (by first | (simp; done) | omega | (simp; omega)) _ | refine Ext.trans (by assumption) ?_))
      have b0 : wb.cell? ⟨w1.heap.size, 0, none⟩ = some (.slice A2 (tn + 1) c2) := by rw [← hwb]; simp
      have hbne : w.heap.size ≠ w1.heap.size := by replace tl : w.heap.size < w1.heap.size := tl; omega
      rw [hwb]
      clear hwb
      generalize w1.heap.size = Bx at b0 hbne ⊢
      replace t0 := xb.cell t0
      have rUb := rangeAt_ext rU xb
      have dSb := xb.cell dS
      have kb := k1.trans xb
      clear rU dS
      go_wp2_with (refine wpList_load_mid rfl 32 _ rfl _ _ rfl (rootC b.up) _ rUb Try.underlying32 rfl hu32 ?_)
      refine (HF.out _ kb).mono ?_
      rintro e3 w3 ⟨rfl, hx3⟩
      have k3 := kb.trans hx3
      have y3 := xb.trans hx3
      replace t0 := hx3.cell t0
      replace b0 := hx3.cell b0
      have dS3 := hx3.cell dSb
      have HXK := Lib.hid (fun W (kx : Ext w1 W) => kids_none A2 (tn + 1) c2 (Tree.putV t b) (tn : Int) wn HA6.out HA5.out W (H2.out W kx))
      have HX1 := Lib.hid (fun W (kx : Ext w1 W) => above_is A2 (tn + 1) c2 (Tree.putV t b) i tn wi wn v1 HA1.out W (H2.out W kx))
      have HX2 := Lib.hid (fun W (kx : Ext w1 W) => above_is A2 (tn + 1) c2 (Tree.putV t b) i k wi wk v2 HA2.out W (H2.out W kx))
      have HX3 := Lib.hid (fun W (kx : Ext w1 W) => above_is A2 (tn + 1) c2 (Tree.putV t b) tn i wn wi false HA3.out W (H2.out W kx))
      have HX4 := Lib.hid (fun W (kx : Ext w1 W) => at_is A2 (tn + 1) c2 (Tree.putV t b) tn wn b.slot hbs tn HA4.out W (H2.out W kx))
      clear rUb dSb H2 HF HA1 HA2 HA3 HA4 HA5 HA6 hx1 hx3 kb xb
      generalize b.slot = bs at *
      go_wp2
      have z0 := fun p => cell_in t0 p
      have z1 := fun p => cell_in b0 p
      have z2 := fun p => cell_in dS3 p
      refine wp_region_quiet_below (by kernel_rfl) (by kernel_rfl) ?_
      repeat (first | go_big_quiet_skip | (go_big_quiet_want; first | ((fail); (try simp only [Act.put, List.setIfInBounds_toArray, List.set_cons_zero, List.set_cons_succ]); go_big_quiet_on) | (go_big_quiet_op; first | go_big_quiet_on | go_big_quiet_call (first | (go_at_call 17; exact regrown_ext (HXK.out _ (y3.trans (ext_regrown _ _)))) | (go_at_call 14; exact regrown_ext (HX4.out _ (y3.trans (ext_regrown _ _)))) | (go_at_call 13; with_reducible (show Calls _ _ #[Value.agg #[Value.slice A2 (tn + 1) c2], Value.int .i64 (i : Int), Value.int .i64 (tn : Int)] _ _); exact regrown_ext (HX1.out _ (y3.trans (ext_regrown _ _)))) | (go_at_call 13; with_reducible (show Calls _ _ #[Value.agg #[Value.slice A2 (tn + 1) c2], Value.int .i64 (i : Int), Value.int .i64 (k : Int)] _ _); exact regrown_ext (HX2.out _ (y3.trans (ext_regrown _ _)))) | (go_at_call 13; with_reducible (show Calls _ _ #[Value.agg #[Value.slice A2 (tn + 1) c2], Value.int .i64 (tn : Int), Value.int .i64 (i : Int)] _ _); exact regrown_ext (HX3.out _ (y3.trans (ext_regrown _ _)))) | (go_at_call 13; with_reducible (show Calls _ _ #[Value.agg #[Value.slice tA tn tc], Value.int .i64 (i : Int), Value.int .i64 (p : Int)] _ _); exact regrown_ext (HT1.out _ (k3.trans (ext_regrown _ _)))) | (go_at_call 13; exact regrown_ext (HT2.out _ (k3.trans (ext_regrown _ _))))))))
      refine wpQuiet_nil ?_
      intro _ hw'
      obtain ⟨pq, hw''⟩ := hw'
      subst hw''
      go_wp2
      go_ret
      exact ⟨rfl, k3.trans (ext_regrown _ _)⟩
    · rw [hE] at HIN
      go_enter Try.func8, Try.ntmps8
      try simp only [List.append_eq, List.cons_append, List.nil_append]
      go_wp2_with fail
      refine (HAW.out _).mono ?_
      rintro e0 w0 ⟨rfl, hx0⟩
      have k0 : Ext w w0 := Ext.trans ((by repeat (first | assumption | exact Ext.refl _ | refine Ext.alloc ?_ _ | refine Ext.drew ?_ | refine Ext.drewN ?_ _ | refine Ext.setCell ?_ (by first | (simp; done) | omega | (simp; omega)) _ | refine Ext.trans (by assumption) ?_))) hx0
      have t0 := hx0.cell (p := ⟨w.heap.size, 0, none⟩) (v := .slice tA tn tc) (by first | (simp; done) | (simp (maxDischargeDepth := 7) [go_sem]; done))
      clear HAW HM
      have rB0 : w0.rangeAt (w.heap.size + 1) 0 b.cells := rangeAt_ext (range_at (w := w.alloc (.cells #[.slice tA tn tc] 24)) (B := w.heap.size + 1) b.cells 44 (by simp)) hx0
      have tl := lt_of_cell t0
      go_wp2_with (refine wpList_load_mid rfl 44 _ rfl _ _ rfl b.cells _ rB0 Try.underlying44 rfl hb66 ?_)
      refine (HIN.out _ k0).mono ?_
      rintro e1 w1 ⟨⟨A2, m, c2, rfl, h2⟩, hx1⟩
      have k1 := k0.trans hx1
      replace t0 := hx1.cell t0
      have rB1 := rangeAt_ext rB0 hx1
      clear rB0
      replace tl := lt_of_cell t0
      clear hx0 rB1
      go_wp2_with fail
      all_goals (first | (go_ret; exact ⟨rfl, k1.alloc _⟩) | (exfalso; apply hok; refine ⟨⟨?_, ?_⟩, ?_, ?_⟩ <;> omega))
  · obtain ⟨E, hEE⟩ : ∃ E, Tree.putE t b = E := ⟨_, rfl⟩
    rw [hEE] at HIN hE
    have gE : (E != 0) = true := by simp [hE]
    have gE2 : ¬ E = 0 := hE
    clear hEE hE
    go_enter Try.func8, Try.ntmps8
    try simp only [List.append_eq, List.cons_append, List.nil_append]
    go_wp2_with fail
    refine (HAW.out _).mono ?_
    rintro e0 w0 ⟨rfl, hx0⟩
    have k0 : Ext w w0 := Ext.trans ((by repeat (first | assumption | exact Ext.refl _ | refine Ext.alloc ?_ _ | refine Ext.drew ?_ | refine Ext.drewN ?_ _ | refine Ext.setCell ?_ (by first | (simp; done) | omega | (simp; omega)) _ | refine Ext.trans (by assumption) ?_))) hx0
    have t0 := hx0.cell (p := ⟨w.heap.size, 0, none⟩) (v := .slice tA tn tc) (by first | (simp; done) | (simp (maxDischargeDepth := 7) [go_sem]; done))
    clear HAW HM
    have rB0 : w0.rangeAt (w.heap.size + 1) 0 b.cells := rangeAt_ext (range_at (w := w.alloc (.cells #[.slice tA tn tc] 24)) (B := w.heap.size + 1) b.cells 44 (by simp)) hx0
    have tl := lt_of_cell t0
    go_wp2_with (refine wpList_load_mid rfl 44 _ rfl _ _ rfl b.cells _ rB0 Try.underlying44 rfl hb66 ?_)
    refine (HIN.out _ k0).mono ?_
    rintro e1 w1 ⟨⟨A2, m, c2, rfl, h2⟩, hx1⟩
    have k1 := k0.trans hx1
    replace t0 := hx1.cell t0
    have rB1 := rangeAt_ext rB0 hx1
    clear rB0
    replace tl := lt_of_cell t0
    clear hx0 rB1
    go_wp2
    go_ret
    exact ⟨rfl, k1.alloc _⟩
set_option maxRecDepth 100000 in
theorem TreeLast_lifted (os : Os) (started : os.Started) (H : Type) (enc : TypeId × Value → H) :
    ReturnsInHanded {} Try.checked os 8 .any (Rows.treeLastSpec.pre6 enc Try.prog Try.f8 Rows.treeLastRow.domain false) (Rows.treeLastSpec.post enc Try.prog Try.f8 false true false false) := by
  refine returnsInHanded_of_change_sized (C := Try.checked) own started (by kernel_rfl) Try.func8
    (ChangeSpec.witness6 (enc := enc) (C := Try.checked) false ⟨#[], #[.agg #[.slice none 0 0], .agg (Block.cells Block.zero).toArray, .int .i64 0, .int .i64 0], []⟩ 8 (by kernel_rfl) (by kernel_rfl) (by kernel_rfl) (by kernel_rfl)) ?_
  intro W base args ds gs before hval0 hW _hcnd hsz0 _
  have hval : ∀ (j : Nat) t v, Try.f8.params[j]? = some t → args[j]? = some v → Value.okWide Try.prog W .any base t v := hval0
  have hsz : (DataW.weightsEach Try.prog (Try.f8.params.toList ++ Rows.treeLastSpec.plain.varTypes Try.prog) (ds ++ gs)).all (· ≤ reachBytes) = true := hsz0
  have hW' := hW
  obtain ⟨p, q, hA0, hV, rfl, hfz, hnd⟩ := hW
  have hA : DataW.TrodAll enc Try.prog W 0 (fun _ => true) true Try.f8.params.toList args.toList ds p := hA0
  rw [Try.params8] at hA hval hsz
  obtain ⟨v0, vs0, d0, ds0, p0, q0, hargs, rfl, rfl, h0, r0⟩ := trodAll_cons hA
  obtain ⟨v1, vs1, d1, ds1, p1, q1, rfl, rfl, rfl, h1, r1⟩ := trodAll_cons r0
  obtain ⟨v2, vs2, d2, ds2, p2, q2, rfl, rfl, rfl, h2, r2⟩ := trodAll_cons r1
  obtain ⟨v3, vs3, d3, ds3, p3, q3, rfl, rfl, rfl, h3, r3⟩ := trodAll_cons r2
  obtain ⟨rfl, rfl, rfl⟩ := trodAll_nil r3
  obtain rfl : args = #[v0, v1, v2, v3] := by cases args; simp_all
  obtain ⟨rfl, rfl⟩ := trodVars_none hV
  have h0k := h0
  have h1k := h1
  have h2k := h2
  have h3k := h3
  have hlt0 : ∀ x ∈ p0, x.block < W.heap.size := fun x hx => by have := hW'.lt x (by simp [hx]); simpa using this
  have hlt1 : ∀ x ∈ p1, x.block < W.heap.size := fun x hx => by have := hW'.lt x (by simp [hx]); simpa using this
  have hlt2 : ∀ x ∈ p2, x.block < W.heap.size := fun x hx => by have := hW'.lt x (by simp [hx]); simpa using this
  have hlt3 : ∀ x ∈ p3, x.block < W.heap.size := fun x hx => by have := hW'.lt x (by simp [hx]); simpa using this
  obtain ⟨tA, tn, tc, t, rfl, ht⟩ := open_tree (hval 0 24 v0 rfl rfl) h0 hsz (j := 0) rfl rfl
  obtain ⟨b, rfl, hb⟩ := open_block (hval 1 44 v1 rfl rfl) h1
  obtain ⟨i, rfl, hi1, hi2⟩ := open_I64 Try.underlying3 (hval 2 3 v2 rfl rfl) h2
  obtain ⟨k, rfl, hk1, hk2⟩ := open_I64 Try.underlying3 (hval 3 3 v3 rfl rfl) h3
  clear hA0 hval0
  simp only [List.append_nil] at hW'
  refine (TreeLast_walk tA tn tc t ht b hb i hi1 hi2 k hk1 hk2 (w := W)).mono fun e W' ⟨he, hg⟩ => ?_
  subst he
  exact ⟨_, rfl, post_law (pa := p0 ++ (p1 ++ (p2 ++ (p3 ++ [])))) (pv := []) hW' (fun _ _ _ => (trodAll_cons_mk (shut_bool Try.underlying4 _) trodAll_mk0))
    (trodAll_cons_mk (Below.trod laidOut (by kernel_rfl) (of_decide_eq_true (by kernel_rfl)) h0k hg.out hlt0) (trodAll_cons_mk (Below.trod laidOut (by kernel_rfl) (of_decide_eq_true (by kernel_rfl)) h1k hg.out hlt1) (trodAll_cons_mk (Below.trod laidOut (by kernel_rfl) (of_decide_eq_true (by kernel_rfl)) h2k hg.out hlt2) (trodAll_cons_mk (Below.trod laidOut (by kernel_rfl) (of_decide_eq_true (by kernel_rfl)) h3k hg.out hlt3) trodAll_mk0)))) rfl (by simp) hg⟩
theorem TreeLast_holds : Rows.TreeLastSaid :=
  OpenClaim.holds_of_wide 8 Try.f8 rfl rfl rfl rfl rfl rfl rfl ⟨rfl, rfl, rfl, rfl, rfl⟩ rfl rfl rfl rfl rfl (by kernel_rfl) Try.func8 (by kernel_rfl)
    (of_decide_eq_true (by kernel_rfl)) (by unfold Func.isWrapper; first | (rw [if_pos (by decide +kernel)]; kernel_rfl) | (rw [if_neg (by decide +kernel)]; exact ⟨rfl, rfl⟩))
    (fun os started H enc _ => TreeLast_lifted os started H enc)
#print axioms TreeLast_holds
end Go.Proofs.Ytoifhpcpahfddaa
