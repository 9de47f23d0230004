/- TreeFinds: each root is found where it stands; one that is found is there; for every tree, place and root. -/
import Derived.Test.YtoifhpcpahfddaaTreeAwake
import Derived.Test.YtoifhpcpahfddaaQuietX
namespace Go.Proofs.Ytoifhpcpahfddaa
open Go.RowKit Go.WideShapes Go.ChangeShapes
set_option linter.unusedVariables false
set_option linter.unusedSimpArgs false







theorem nodup_inj {α : Type} {L : List α} (h : L.Nodup) {i j : Nat} {x : α} (hi : L[i]? = some x) (hj : L[j]? = some x) : i = j := by
  obtain ⟨h1, e1⟩ := List.getElem?_eq_some_iff.1 hi
  obtain ⟨h2, e2⟩ := List.getElem?_eq_some_iff.1 hj
  rcases Nat.lt_trichotomy i j with hlt | he | hgt
  · exact absurd (e1.trans e2.symm) (List.pairwise_iff_getElem.1 h i j h1 h2 hlt)
  · exact he
  · exact absurd (e2.trans e1.symm) (List.pairwise_iff_getElem.1 h j i h2 h1 hgt)
set_option maxHeartbeats 2000000 in
theorem TreeFinds_walk {w : World} (tA : Option Addr) (tn tc : Nat) (t : List Node) (ht : NL w tA tn tc t) (i : Int) (i1 : -9223372036854775808 ≤ i) (i2 : i ≤ 9223372036854775807) (r : List Int) (hr : RootOk r) :
    Calls Try.prog 7 #[.agg #[.slice tA tn tc], .int .i64 i, .agg (rootC r).toArray] w fun e' w' => e' = .returned (.bool true) ∧ Ext w w' := by
  have hlen := ht.len
  have hroom := ht.row.room
  have HAW := Lib.hid (fun W => awake_any W)
  have HV := Lib.hid (fun W (k : Ext w W) => ht.ext k)
  have HM := Lib.hid (fun b (hb : Tree.mayV t = b) W (k : Ext w W) => treeMay_is tA tn tc t b hb W (ht.ext k))
  have hi32 : (Try.prog.info? 32).map (·.size) = some (rootC r).length := by rw [rootC_len hr]; kernel_rfl
  cases hm : Tree.mayV t with
  | false =>
    go_enter Try.func7, Try.ntmps7
    try simp only [List.append_eq, List.cons_append, List.nil_append]
    go_wp2_with fail
    refine (HAW.out _).mono ?_
    rintro e0 w0 ⟨rfl, hx0⟩
    have k0 : Ext w w0 := Ext.trans ((by repeat (first | assumption | exact Ext.refl _ | refine Ext.alloc ?_ _ | refine Ext.drew ?_ | refine Ext.drewN ?_ _ | refine Ext.setCell ?_ (by first | (simp; done) | omega | (simp; omega)) _ | refine Ext.trans (by assumption) ?_))) hx0
    have t0 := hx0.cell (p := ⟨w.heap.size, 0, none⟩) (v := .slice tA tn tc) (by first | (simp; done) | (simp (maxDischargeDepth := 7) [go_sem]; done))
    go_wp2_with fail
    refine (HM.out false hm _ k0).mono ?_
    rintro e1 w1 ⟨rfl, hx1⟩
    have k1 : Ext w w1 := k0.trans hx1
    replace t0 := hx1.cell t0
    go_wp2
    go_ret
    exact ⟨rfl, k1⟩
  | true =>
    have HFX := Lib.hid (fun s j (hs : RootOk s) (hj : Tree.findV t s = j) W (kx : Ext w W) => find_is tA tn tc t s hs j hj W (ht.ext kx))
    by_cases hmem : r ∈ Tree.roots t
    · have hv := findV_in hm hmem
      have hlt := List.idxOf_lt_length_of_mem hmem
      rw [roots_len, hlen] at hlt
      have hget : (Tree.nd t ((Tree.roots t).idxOf r)).root = r := by
        have h1 := Tree.roots_get (T := t) (i := (Tree.roots t).idxOf r) (by omega)
        have h2 : (Tree.roots t)[(Tree.roots t).idxOf r]? = some r := by rw [List.getElem?_eq_getElem (by rw [roots_len]; omega)]; simp
        rw [h2] at h1
        simpa using h1.symm
      obtain ⟨j, hj⟩ : ∃ j, (Tree.roots t).idxOf r = j := ⟨_, rfl⟩
      rw [hj] at hv hlt hget
      have HF := Lib.hid (fun W (kx : Ext w W) => HFX.out r j hr hv W kx)
      have HG := Lib.hid hget
      have g0 : (j : Int) < tn := by omega
      have HT := Lib.hid (fun W (kx : Ext w W) => ht.ext kx)
      clear hj hv hget
      go_enter Try.func7, Try.ntmps7
      try simp only [List.append_eq, List.cons_append, List.nil_append]
      go_wp2_with fail
      refine (HAW.out _).mono ?_
      rintro e0 w0 ⟨rfl, hx0⟩
      have k0 : Ext w w0 := Ext.trans ((by repeat (first | assumption | exact Ext.refl _ | refine Ext.alloc ?_ _ | refine Ext.drew ?_ | refine Ext.drewN ?_ _ | refine Ext.setCell ?_ (by first | (simp; done) | omega | (simp; omega)) _ | refine Ext.trans (by assumption) ?_))) hx0
      have t0 := hx0.cell (p := ⟨w.heap.size, 0, none⟩) (v := .slice tA tn tc) (by first | (simp; done) | (simp (maxDischargeDepth := 7) [go_sem]; done))
      have rR := (rangeAt_ext (range_at (w := w.alloc (.cells #[.slice tA tn tc] 24)) (B := w.heap.size + 1) (rootC r) 32 (by simp)) hx0)
      go_wp2_with fail
      refine (HM.out true hm _ k0).mono ?_
      rintro e1 w1 ⟨rfl, hx1⟩
      have k1 : Ext w w1 := k0.trans hx1
      replace t0 := hx1.cell t0
      replace rR := rangeAt_ext rR hx1
      go_wp2_with (refine wpList_load_mid rfl 32 _ rfl _ _ rfl (rootC r) _ rR Try.underlying32 rfl hi32 ?_)
      refine (HF.out _ k1).mono ?_
      rintro e2 w2 ⟨rfl, hx2⟩
      have k2 : Ext w w2 := k1.trans hx2
      replace t0 := hx2.cell t0
      replace rR := rangeAt_ext rR hx2
      go_wp2
      obtain ⟨b, off, rfl, hrx, hokx⟩ := (HT.out _ k2).at' hlt
      have rm := range_root0 hrx
      have hrok := hokx.1
      change RootOk (Tree.nd t j).root at hrok
      change w2.rangeAt _ _ (rootC (Tree.nd t j).root) at rm
      rw [HG.out] at rm
      have z0 := fun p => cell_in t0 p
      have gj1 : decide ((0 : Int) ≤ j) = true := decide_eq_true (by omega)
      have gj2 : decide (tn ≤ j) = false := decide_eq_false (by omega)
      have hq : ∀ W, (binOp .neq 32 (.agg (rootC r).toArray) (.agg (rootC r).toArray)).run Try.prog W = .ok (.bool false) W := fun W => root_neq hr hr (b := true) (by simp) W
      clear hrx hokx hrok
      refine wp_region_quiet_below (by kernel_rfl) (by kernel_rfl) ?_
      repeat (first | go_big_quiet_skip | (go_big_quiet_want; first | ((first | (refine quiet_load_mid 32 _ rfl _ _ rfl (rootC r) _ (fun W ⟨p, hp⟩ => hp ▸ rangeAt_ext rm (ext_regrown _ p)) Try.underlying32 rfl hi32 ?_) | (refine quiet_load_mid 32 _ rfl _ _ rfl (rootC r) _ (fun W ⟨p, hp⟩ => hp ▸ rangeAt_ext rR (ext_regrown _ p)) Try.underlying32 rfl hi32 ?_)); (try simp only [Act.put, List.setIfInBounds_toArray, List.set_cons_zero, List.set_cons_succ]); go_big_quiet_on) | (go_big_quiet_op; first | go_big_quiet_on | go_big_quiet_call (fail))))
      refine wpQuiet_nil ?_
      intro _ hw'
      obtain ⟨pq, hw''⟩ := hw'
      subst hw''
      have k3 : Ext w (Go.Sort.grow (redrawn w2 pq.d) pq.os) := k2.trans (ext_regrown _ _)
      replace t0 := cell_in t0 pq
      generalize (Go.Sort.grow (redrawn w2 pq.d) pq.os) = w3 at k3 t0 ⊢
      clear rR rm HF z0 hq
      go_wp2
      have z0 := fun p => cell_in t0 p
      by_cases hi0 : i < 0
      · have g1 : decide (i < 0) = true := decide_eq_true hi0
        refine wp_region_quiet_below (by kernel_rfl) (by kernel_rfl) ?_
        repeat (first | go_big_quiet_skip | (go_big_quiet_want; first | ((fail); (try simp only [Act.put, List.setIfInBounds_toArray, List.set_cons_zero, List.set_cons_succ]); go_big_quiet_on) | (go_big_quiet_op; first | go_big_quiet_on | go_big_quiet_call (fail))))
        refine wpQuiet_nil ?_
        intro _ hw'
        obtain ⟨pq, hw''⟩ := hw'
        subst hw''
        go_wp2
        go_ret
        exact ⟨rfl, k3.trans (ext_regrown _ _)⟩
      · have g1 : decide (i < 0) = false := decide_eq_false hi0
        by_cases hin : (tn : Int) ≤ i
        · have g2 : decide ((tn : Int) ≤ i) = true := decide_eq_true hin
          refine wp_region_quiet_below (by kernel_rfl) (by kernel_rfl) ?_
          repeat (first | go_big_quiet_skip | (go_big_quiet_want; first | ((fail); (try simp only [Act.put, List.setIfInBounds_toArray, List.set_cons_zero, List.set_cons_succ]); go_big_quiet_on) | (go_big_quiet_op; first | go_big_quiet_on | go_big_quiet_call (fail))))
          refine wpQuiet_nil ?_
          intro _ hw'
          obtain ⟨pq, hw''⟩ := hw'
          subst hw''
          go_wp2
          go_ret
          exact ⟨rfl, k3.trans (ext_regrown _ _)⟩
        · obtain ⟨m, rfl⟩ := Int.eq_ofNat_of_zero_le (show 0 ≤ i by omega)
          have hmn : m < tn := by omega
          have HT := Lib.hid (fun W (kx : Ext w W) => ht.ext kx)
          have hfr : Tree.findV t (Tree.nd t m).root = (m : Int) := by
            have hin : (Tree.nd t m).root ∈ Tree.roots t := by
              have := Tree.roots_get (T := t) (i := m) (by omega)
              exact List.mem_of_getElem? this
            rw [findV_in hm hin]
            have hg := Tree.roots_get (T := t) (i := m) (by omega)
            have hlt := List.idxOf_lt_length_of_mem hin
            have hi2 : (Tree.roots t)[(Tree.roots t).idxOf (Tree.nd t m).root]? = some (Tree.nd t m).root := by rw [List.getElem?_eq_getElem hlt]; simp
            have := nodup_inj (Tree.nodup hm) hi2 hg
            omega
          obtain ⟨b2, off2, e2, hrx, hokx⟩ := (HT.out _ k3).at' hmn
          cases e2
          have rm := range_root0 hrx
          have hrok := hokx.1
          change RootOk (Tree.nd t m).root at hrok
          change w3.rangeAt _ _ (rootC (Tree.nd t m).root) at rm
          have HFM := Lib.hid (fun W (kx : Ext w W) => HFX.out _ m hrok hfr W kx)
          have him : (Try.prog.info? 32).map (·.size) = some (rootC (Tree.nd t m).root).length := by rw [rootC_len hrok]; kernel_rfl
          have g2 : decide ((tn : Int) ≤ (m : Int)) = false := decide_eq_false hin
          have g2' : decide (tn ≤ m) = false := decide_eq_false (by omega)
          have g3 : (m : Int) < tn := by omega
          clear hrx hokx hfr hin hi0
          refine wp_region_quiet_below (by kernel_rfl) (by kernel_rfl) ?_
          repeat (first | go_big_quiet_skip | (go_big_quiet_want; first | ((refine quiet_load_mid 32 _ rfl _ _ rfl (rootC (Tree.nd t m).root) _ (fun W ⟨p, hp⟩ => hp ▸ rangeAt_ext rm (ext_regrown _ p)) Try.underlying32 rfl him ?_); (try simp only [Act.put, List.setIfInBounds_toArray, List.set_cons_zero, List.set_cons_succ]); go_big_quiet_on) | (go_big_quiet_op; first | go_big_quiet_on | go_big_quiet_call ((go_at_call 16; exact regrown_ext (HFM.out _ (Ext.trans k3 (ext_regrown _ _))))))))
          refine wpQuiet_nil ?_
          intro _ hw'
          obtain ⟨pq, hw''⟩ := hw'
          subst hw''
          go_wp2
          go_ret
          exact ⟨rfl, k3.trans (ext_regrown _ _)⟩
    · have HF := Lib.hid (fun W (kx : Ext w W) => HFX.out r (-1) hr (findV_out hmem) W kx)
      go_enter Try.func7, Try.ntmps7
      try simp only [List.append_eq, List.cons_append, List.nil_append]
      go_wp2_with fail
      refine (HAW.out _).mono ?_
      rintro e0 w0 ⟨rfl, hx0⟩
      have k0 : Ext w w0 := Ext.trans ((by repeat (first | assumption | exact Ext.refl _ | refine Ext.alloc ?_ _ | refine Ext.drew ?_ | refine Ext.drewN ?_ _ | refine Ext.setCell ?_ (by first | (simp; done) | omega | (simp; omega)) _ | refine Ext.trans (by assumption) ?_))) hx0
      have t0 := hx0.cell (p := ⟨w.heap.size, 0, none⟩) (v := .slice tA tn tc) (by first | (simp; done) | (simp (maxDischargeDepth := 7) [go_sem]; done))
      have rR := (rangeAt_ext (range_at (w := w.alloc (.cells #[.slice tA tn tc] 24)) (B := w.heap.size + 1) (rootC r) 32 (by simp)) hx0)
      go_wp2_with fail
      refine (HM.out true hm _ k0).mono ?_
      rintro e1 w1 ⟨rfl, hx1⟩
      have k1 : Ext w w1 := k0.trans hx1
      replace t0 := hx1.cell t0
      replace rR := rangeAt_ext rR hx1
      go_wp2_with (refine wpList_load_mid rfl 32 _ rfl _ _ rfl (rootC r) _ rR Try.underlying32 rfl hi32 ?_)
      refine (HF.out _ k1).mono ?_
      rintro e2 w2 ⟨rfl, hx2⟩
      have k2 : Ext w w2 := k1.trans hx2
      replace t0 := hx2.cell t0
      replace rR := rangeAt_ext rR hx2
      go_wp2
      refine wp_region_quiet_below (by kernel_rfl) (by kernel_rfl) ?_
      repeat (first | go_big_quiet_skip | (go_big_quiet_want; first | ((fail); (try simp only [Act.put, List.setIfInBounds_toArray, List.set_cons_zero, List.set_cons_succ]); go_big_quiet_on) | (go_big_quiet_op; first | go_big_quiet_on | go_big_quiet_call (fail))))
      refine wpQuiet_nil ?_
      intro _ hw'
      obtain ⟨pq, hw''⟩ := hw'
      subst hw''
      have k3 : Ext w (Go.Sort.grow (redrawn w2 pq.d) pq.os) := k2.trans (ext_regrown _ _)
      replace t0 := cell_in t0 pq
      generalize (Go.Sort.grow (redrawn w2 pq.d) pq.os) = w3 at k3 t0 ⊢
      clear rR HF
      go_wp2
      have z0 := fun p => cell_in t0 p
      by_cases hi0 : i < 0
      · have g1 : decide (i < 0) = true := decide_eq_true hi0
        refine wp_region_quiet_below (by kernel_rfl) (by kernel_rfl) ?_
        repeat (first | go_big_quiet_skip | (go_big_quiet_want; first | ((fail); (try simp only [Act.put, List.setIfInBounds_toArray, List.set_cons_zero, List.set_cons_succ]); go_big_quiet_on) | (go_big_quiet_op; first | go_big_quiet_on | go_big_quiet_call (fail))))
        refine wpQuiet_nil ?_
        intro _ hw'
        obtain ⟨pq, hw''⟩ := hw'
        subst hw''
        go_wp2
        go_ret
        exact ⟨rfl, k3.trans (ext_regrown _ _)⟩
      · have g1 : decide (i < 0) = false := decide_eq_false hi0
        by_cases hin : (tn : Int) ≤ i
        · have g2 : decide ((tn : Int) ≤ i) = true := decide_eq_true hin
          refine wp_region_quiet_below (by kernel_rfl) (by kernel_rfl) ?_
          repeat (first | go_big_quiet_skip | (go_big_quiet_want; first | ((fail); (try simp only [Act.put, List.setIfInBounds_toArray, List.set_cons_zero, List.set_cons_succ]); go_big_quiet_on) | (go_big_quiet_op; first | go_big_quiet_on | go_big_quiet_call (fail))))
          refine wpQuiet_nil ?_
          intro _ hw'
          obtain ⟨pq, hw''⟩ := hw'
          subst hw''
          go_wp2
          go_ret
          exact ⟨rfl, k3.trans (ext_regrown _ _)⟩
        · obtain ⟨m, rfl⟩ := Int.eq_ofNat_of_zero_le (show 0 ≤ i by omega)
          have hmn : m < tn := by omega
          have HT := Lib.hid (fun W (kx : Ext w W) => ht.ext kx)
          have hfr : Tree.findV t (Tree.nd t m).root = (m : Int) := by
            have hin : (Tree.nd t m).root ∈ Tree.roots t := by
              have := Tree.roots_get (T := t) (i := m) (by omega)
              exact List.mem_of_getElem? this
            rw [findV_in hm hin]
            have hg := Tree.roots_get (T := t) (i := m) (by omega)
            have hlt := List.idxOf_lt_length_of_mem hin
            have hi2 : (Tree.roots t)[(Tree.roots t).idxOf (Tree.nd t m).root]? = some (Tree.nd t m).root := by rw [List.getElem?_eq_getElem hlt]; simp
            have := nodup_inj (Tree.nodup hm) hi2 hg
            omega
          obtain ⟨b2, off2, e2, hrx, hokx⟩ := (HT.out _ k3).at' hmn
          cases e2
          have rm := range_root0 hrx
          have hrok := hokx.1
          change RootOk (Tree.nd t m).root at hrok
          change w3.rangeAt _ _ (rootC (Tree.nd t m).root) at rm
          have HFM := Lib.hid (fun W (kx : Ext w W) => HFX.out _ m hrok hfr W kx)
          have him : (Try.prog.info? 32).map (·.size) = some (rootC (Tree.nd t m).root).length := by rw [rootC_len hrok]; kernel_rfl
          have g2 : decide ((tn : Int) ≤ (m : Int)) = false := decide_eq_false hin
          have g2' : decide (tn ≤ m) = false := decide_eq_false (by omega)
          have g3 : (m : Int) < tn := by omega
          clear hrx hokx hfr hin hi0
          refine wp_region_quiet_below (by kernel_rfl) (by kernel_rfl) ?_
          repeat (first | go_big_quiet_skip | (go_big_quiet_want; first | ((refine quiet_load_mid 32 _ rfl _ _ rfl (rootC (Tree.nd t m).root) _ (fun W ⟨p, hp⟩ => hp ▸ rangeAt_ext rm (ext_regrown _ p)) Try.underlying32 rfl him ?_); (try simp only [Act.put, List.setIfInBounds_toArray, List.set_cons_zero, List.set_cons_succ]); go_big_quiet_on) | (go_big_quiet_op; first | go_big_quiet_on | go_big_quiet_call ((go_at_call 16; exact regrown_ext (HFM.out _ (Ext.trans k3 (ext_regrown _ _))))))))
          refine wpQuiet_nil ?_
          intro _ hw'
          obtain ⟨pq, hw''⟩ := hw'
          subst hw''
          go_wp2
          go_ret
          exact ⟨rfl, k3.trans (ext_regrown _ _)⟩
set_option maxRecDepth 100000 in
theorem TreeFinds_lifted (os : Os) (started : os.Started) (H : Type) (enc : TypeId × Value → H) :
    ReturnsInHanded {} Try.checked os 7 .any (Rows.treeFindsSpec.pre6 enc Try.prog Try.f7 Rows.treeFindsRow.domain false) (Rows.treeFindsSpec.post enc Try.prog Try.f7 false true false false) := by
  refine returnsInHanded_of_change_sized (C := Try.checked) own started (by kernel_rfl) Try.func7
    (ChangeSpec.witness6 (enc := enc) (C := Try.checked) false ⟨#[], #[.agg #[.slice none 0 0], .int .i64 0, .agg (rootC zeroR).toArray], []⟩ 8 (by kernel_rfl) (by kernel_rfl) (by kernel_rfl) (by kernel_rfl)) ?_
  intro W base args ds gs before hval0 hW _hcnd hsz0 _
  have hval : ∀ (j : Nat) t v, Try.f7.params[j]? = some t → args[j]? = some v → Value.okWide Try.prog W .any base t v := hval0
  have hsz : (DataW.weightsEach Try.prog (Try.f7.params.toList ++ Rows.treeFindsSpec.plain.varTypes Try.prog) (ds ++ gs)).all (· ≤ reachBytes) = true := hsz0
  have hW' := hW
  obtain ⟨p, q, hA0, hV, rfl, hfz, hnd⟩ := hW
  have hA : DataW.TrodAll enc Try.prog W 0 (fun _ => true) true Try.f7.params.toList args.toList ds p := hA0
  rw [Try.params7] at hA hval hsz
  obtain ⟨v0, vs0, d0, ds0, p0, q0, hargs, rfl, rfl, h0, r0⟩ := trodAll_cons hA
  obtain ⟨v1, vs1, d1, ds1, p1, q1, rfl, rfl, rfl, h1, r1⟩ := trodAll_cons r0
  obtain ⟨v2, vs2, d2, ds2, p2, q2, rfl, rfl, rfl, h2, r2⟩ := trodAll_cons r1
  obtain ⟨rfl, rfl, rfl⟩ := trodAll_nil r2
  obtain rfl : args = #[v0, v1, v2] := by cases args; simp_all
  obtain ⟨rfl, rfl⟩ := trodVars_none hV
  have h0k := h0
  have h1k := h1
  have h2k := h2
  have hlt0 : ∀ x ∈ p0, x.block < W.heap.size := fun x hx => by have := hW'.lt x (by simp [hx]); simpa using this
  have hlt1 : ∀ x ∈ p1, x.block < W.heap.size := fun x hx => by have := hW'.lt x (by simp [hx]); simpa using this
  have hlt2 : ∀ x ∈ p2, x.block < W.heap.size := fun x hx => by have := hW'.lt x (by simp [hx]); simpa using this
  obtain ⟨tA, tn, tc, t, rfl, ht⟩ := open_tree (hval 0 24 v0 rfl rfl) h0 hsz (j := 0) rfl rfl
  obtain ⟨i, rfl, hi1, hi2⟩ := open_I64 Try.underlying3 (hval 1 3 v1 rfl rfl) h1
  obtain ⟨r, rfl, hr⟩ := open_root (hval 2 32 v2 rfl rfl) h2
  clear hA0 hval0
  simp only [List.append_nil] at hW'
  refine (TreeFinds_walk tA tn tc t ht i hi1 hi2 r hr (w := W)).mono fun e W' ⟨he, hg⟩ => ?_
  subst he
  exact ⟨_, rfl, post_law (pa := p0 ++ (p1 ++ (p2 ++ []))) (pv := []) hW' (fun _ _ _ => (trodAll_cons_mk (shut_bool Try.underlying4 _) trodAll_mk0))
    (trodAll_cons_mk (Below.trod laidOut (by kernel_rfl) (of_decide_eq_true (by kernel_rfl)) h0k hg.out hlt0) (trodAll_cons_mk (Below.trod laidOut (by kernel_rfl) (of_decide_eq_true (by kernel_rfl)) h1k hg.out hlt1) (trodAll_cons_mk (Below.trod laidOut (by kernel_rfl) (of_decide_eq_true (by kernel_rfl)) h2k hg.out hlt2) trodAll_mk0))) rfl (by simp) hg⟩
theorem TreeFinds_holds : Rows.TreeFindsSaid :=
  OpenClaim.holds_of_wide 7 Try.f7 rfl rfl rfl rfl rfl rfl rfl ⟨rfl, rfl, rfl, rfl, rfl⟩ rfl rfl rfl rfl rfl (by kernel_rfl) Try.func7 (by kernel_rfl)
    (of_decide_eq_true (by kernel_rfl)) (by unfold Func.isWrapper; first | (rw [if_pos (by decide +kernel)]; kernel_rfl) | (rw [if_neg (by decide +kernel)]; exact ⟨rfl, rfl⟩))
    (fun os started H enc _ => TreeFinds_lifted os started H enc)
#print axioms TreeFinds_holds
end Go.Proofs.Ytoifhpcpahfddaa
