/- TreeAt: the ancestor at a slot is above, no later than it, and none between is; of an earlier slot it is above that; for every tree, place, and two slots. -/
import Derived.Test.YtoifhpcpahfddaaTreeAwake
namespace Go.Proofs.Ytoifhpcpahfddaa
open Go.RowKit Go.WideShapes Go.ChangeShapes
set_option linter.unusedVariables false
set_option linter.unusedSimpArgs false






set_option maxHeartbeats 1500000 in
theorem TreeAt_walk {w : World} (tA : Option Addr) (tn tc : Nat) (t : List Node) (ht : NL w tA tn tc t) (i : Int) (i1 : -9223372036854775808 ≤ i) (i2 : i ≤ 9223372036854775807) (s : Nat) (hs : s < 18446744073709551616) (l : Nat) (hl : l < 18446744073709551616) :
    Calls Try.prog 4 #[.agg #[.slice tA tn tc], .int .i64 i, .int .u64 s, .int .u64 l] w fun e' w' => e' = .returned (.bool true) ∧ Ext w w' := by
  have hlen := ht.len
  have hroom := ht.row.room
  have HAW := Lib.hid (fun W => awake_any W)
  have HV := Lib.hid (fun W (k : Ext w W) => ht.ext k)
  have HM := Lib.hid (fun b (hb : Tree.mayV t = b) W (k : Ext w W) => treeMay_is tA tn tc t b hb W (ht.ext k))
  cases hm : Tree.mayV t with
  | false =>
    go_enter Try.func4, Try.ntmps4
    try simp only [List.append_eq, List.cons_append, List.nil_append]
    go_wp2_with fail
    refine (HAW.out _).mono ?_
    rintro e0 w0 ⟨rfl, hx0⟩
    have k0 : Ext w w0 := Ext.trans ((by repeat (first | assumption | exact Ext.refl _ | refine Ext.alloc ?_ _ | refine Ext.drew ?_ | refine Ext.drewN ?_ _ | refine Ext.setCell ?_ (by first | (simp; done) | omega | (simp; omega)) _ | refine Ext.trans (by assumption) ?_))) hx0
    have t0 := hx0.cell (p := ⟨w.heap.size, 0, none⟩) (v := .slice tA tn tc) (by first | (simp; done) | (simp (maxDischargeDepth := 7) [go_sem]; done))
    go_wp2_with fail
    refine (HM.out false hm _ k0).mono ?_
    rintro e1 w1 ⟨rfl, hx1⟩
    have k1 : Ext w w1 := k0.trans hx1
    replace t0 := hx1.cell t0
    go_wp2
    go_ret
    exact ⟨rfl, k1⟩
  | true =>
    by_cases hok : 0 ≤ i ∧ i < tn ∧ l ≤ s
    · obtain ⟨p1, p2, p3⟩ := hok
      have wi := wf_i64 i1 i2
      obtain ⟨i, rfl⟩ := Int.eq_ofNat_of_zero_le p1
      have li : i < t.length := by omega
      have hin : i < tn := by omega
      have HA := Lib.hid (fun i k b (hi : (Lit.int .i64 i).wf = true) (hk : (Lit.int .i64 k).wf = true) (hb : Tree.aboveV t i k = b) W (kx : Ext w W) => above_is tA tn tc t i k hi hk b hb W (ht.ext kx))
      have HT := Lib.hid (fun s r (hs : s < 18446744073709551616) (hr : Tree.atV t i s = r) W (kx : Ext w W) => at_is tA tn tc t i wi s hs r hr W (ht.ext kx))
      have r1 : decide ((i : Int) < 0) = false := decide_eq_false (by omega)
      have q1 : decide (tn ≤ i) = false := decide_eq_false (by omega)
      have q2 : decide ((s : Int) < l) = false := decide_eq_false (by omega)
      have q3 : decide (s < l) = false := decide_eq_false (by omega)
      rcases Tree.at_spec hm li s with ⟨ha, hall⟩ | ⟨a, ha, hai, has, hak⟩
      · have hb : Tree.atV t i l = -1 := by
          rcases Tree.at_spec hm li l with ⟨h, _⟩ | ⟨b, _, hbi, hbs, _⟩
          · exact h
          · have := hall b hbi; omega
        have H1 := Lib.hid (fun W (kx : Ext w W) => HT.out s (-1) hs ha W kx)
        have H2 := Lib.hid (fun W (kx : Ext w W) => HT.out l (-1) hl hb W kx)
        have h0 := hall 0 (Tree.zero_mem t i)
        clear hall ha hb HT HA
        go_enter Try.func4, Try.ntmps4
        try simp only [List.append_eq, List.cons_append, List.nil_append]
        go_wp2_with fail
        refine (HAW.out _).mono ?_
        rintro e0 w0 ⟨rfl, hx0⟩
        have k0 : Ext w w0 := Ext.trans ((by repeat (first | assumption | exact Ext.refl _ | refine Ext.alloc ?_ _ | refine Ext.drew ?_ | refine Ext.drewN ?_ _ | refine Ext.setCell ?_ (by first | (simp; done) | omega | (simp; omega)) _ | refine Ext.trans (by assumption) ?_))) hx0
        have t0 := hx0.cell (p := ⟨w.heap.size, 0, none⟩) (v := .slice tA tn tc) (by first | (simp; done) | (simp (maxDischargeDepth := 7) [go_sem]; done))
        go_wp2_with fail
        refine (HM.out true hm _ k0).mono ?_
        rintro e1 w1 ⟨rfl, hx1⟩
        have k1 : Ext w w1 := k0.trans hx1
        replace t0 := hx1.cell t0
        clear HAW HM
        go_wp2_with fail
        refine (H1.out _ k1).mono ?_
        rintro e2 w2 ⟨rfl, hx2⟩
        have k2 : Ext w w2 := k1.trans hx2
        replace t0 := hx2.cell t0
        go_wp2_with fail
        refine (H2.out _ k2).mono ?_
        rintro e3 w3 ⟨rfl, hx3⟩
        have k3 : Ext w w3 := k2.trans hx3
        replace t0 := hx3.cell t0
        obtain ⟨b, off, rfl, hrx, hokx⟩ := (HV.out _ k3).at' (i := 0) (by omega)
        have d0 := rangeAt_head hrx (Node.at33 hokx)
        change World.cell? _ _ = some (.int .u64 (Tree.nd t 0).slot) at d0
        generalize (Tree.nd t 0).slot = z at d0 h0
        have gz : (s : Int) < z := by omega
        simp only [Nat.zero_mul, Nat.add_zero] at d0
        clear hrx hokx HV
        go_wp2
        go_ret
        exact ⟨rfl, k3⟩
      · have lan : a ≤ i := Tree.mem_le hai
        have la : a < t.length := by omega
        have wa : (Lit.int .i64 (a : Int)).wf = true := wf_i64 (by omega) (by omega)
        have H1 := Lib.hid (fun W (kx : Ext w W) => HT.out s a hs ha W kx)
        obtain ⟨bb, hb⟩ : ∃ bb, Tree.atV t i l = bb := ⟨_, rfl⟩
        have H2 := Lib.hid (fun W (kx : Ext w W) => HT.out l bb hl hb W kx)
        have hbs : bb = -1 ∨ ∃ b : Nat, bb = b ∧ b ≤ i ∧ Tree.aboveV t b a = true := by
          rcases Tree.at_spec hm li l with ⟨h, _⟩ | ⟨b, h, hbi, hbs, _⟩
          · exact .inl (hb.symm.trans h)
          · have hle := Tree.mem_le hbi
            exact .inr ⟨b, hb.symm.trans h, hle, (Tree.above_iff hm (by omega) la).2 (hak b hbi (by omega))⟩
        have haa : Tree.aboveV t a i = true := (Tree.above_iff hm la li).2 hai
        have hno : ∀ k : Nat, k < tn → Tree.aboveV t k i = true → Tree.aboveV t k a = false → s < (Tree.nd t k).slot := fun k hk h1 h2 => by
          by_cases hle : (Tree.nd t k).slot ≤ s
          · have := (Tree.above_iff hm (by omega) la).2 (hak k ((Tree.above_iff hm (by omega) li).1 h1) hle)
            rw [this] at h2; cases h2
          · omega
        have HNO := Lib.hid hno
        have HBS := Lib.hid hbs
        clear ha hb hak hbs hno HT
        go_enter Try.func4, Try.ntmps4
        try simp only [List.append_eq, List.cons_append, List.nil_append]
        go_wp2_with fail
        refine (HAW.out _).mono ?_
        rintro e0 w0 ⟨rfl, hx0⟩
        have k0 : Ext w w0 := Ext.trans ((by repeat (first | assumption | exact Ext.refl _ | refine Ext.alloc ?_ _ | refine Ext.drew ?_ | refine Ext.drewN ?_ _ | refine Ext.setCell ?_ (by first | (simp; done) | omega | (simp; omega)) _ | refine Ext.trans (by assumption) ?_))) hx0
        have t0 := hx0.cell (p := ⟨w.heap.size, 0, none⟩) (v := .slice tA tn tc) (by first | (simp; done) | (simp (maxDischargeDepth := 7) [go_sem]; done))
        go_wp2_with fail
        refine (HM.out true hm _ k0).mono ?_
        rintro e1 w1 ⟨rfl, hx1⟩
        have k1 : Ext w w1 := k0.trans hx1
        replace t0 := hx1.cell t0
        clear HAW HM
        go_wp2_with fail
        refine (H1.out _ k1).mono ?_
        rintro e2 w2 ⟨rfl, hx2⟩
        have k2 : Ext w w2 := k1.trans hx2
        replace t0 := hx2.cell t0
        go_wp2_with fail
        refine (H2.out _ k2).mono ?_
        rintro e3 w3 ⟨rfl, hx3⟩
        have k3 : Ext w w3 := k2.trans hx3
        replace t0 := hx3.cell t0
        clear H1 H2
        have ga : decide ((a : Int) < 0) = false := decide_eq_false (by omega)
        go_wp2
        have T0 := Lib.hid t0
        clear t0
        go_loopw [12] (fun k' wr => ∃ k : Nat, k ≤ tn ∧ k' = .int .i64 k ∧ Ext w3 wr) (fun k' _ => tn - (intOf k').toNat)
        case atStart => exact ⟨0, Nat.zero_le _, rfl, Ext.refl _⟩
        case round =>
          obtain ⟨k, hk, rfl, hxr⟩ := hrel
          have kk := k3.trans hxr
          have tt := hxr.cell T0.out
          by_cases hlt : k < tn
          · have gk : (k : Int) < tn := by omega
            have wk : (Lit.int .i64 (k : Int)).wf = true := wf_i64 (by omega) (by omega)
            cases hx1 : Tree.aboveV t k i with
            | false =>
              go_wp2_with fail
              refine (HA.out k i false (by assumption) (by assumption) (by assumption) _ (by assumption)).mono ?_
              rintro e w' ⟨rfl, hx⟩
              have kk : Ext w _ := Ext.trans (by assumption) hx
              have tt := hx.cell (by assumption)
              have k9 := hxr.trans hx
              clear hx1
              go_wp2
              go_roundw
              case rel => exact ⟨k + 1, by omega, by go_num, by assumption⟩
              case measure => simp [intOf]; omega
            | true =>
              cases hy1 : Tree.aboveV t k a with
              | true =>
                go_wp2_with fail
                refine (HA.out k i true (by assumption) (by assumption) (by assumption) _ (by assumption)).mono ?_
                rintro e w' ⟨rfl, hx⟩
                have kk : Ext w _ := Ext.trans (by assumption) hx
                have tt := hx.cell (by assumption)
                have k8 := hxr.trans hx
                go_wp2_with fail
                refine (HA.out k a true (by assumption) (by assumption) (by assumption) _ (by assumption)).mono ?_
                rintro e w' ⟨rfl, hx⟩
                have kk : Ext w _ := Ext.trans (by assumption) hx
                have tt := hx.cell (by assumption)
                have k9 := k8.trans hx
                clear hx1 hy1
                go_wp2
                go_roundw
                case rel => exact ⟨k + 1, by omega, by go_num, by assumption⟩
                case measure => simp [intOf]; omega
              | false =>
                have hsl := HNO.out k hlt hx1 hy1
                go_wp2_with fail
                refine (HA.out k i true (by assumption) (by assumption) (by assumption) _ (by assumption)).mono ?_
                rintro e w' ⟨rfl, hx⟩
                have kk : Ext w _ := Ext.trans (by assumption) hx
                have tt := hx.cell (by assumption)
                have k8 := hxr.trans hx
                go_wp2_with fail
                refine (HA.out k a false (by assumption) (by assumption) (by assumption) _ (by assumption)).mono ?_
                rintro e w' ⟨rfl, hx⟩
                have kk : Ext w _ := Ext.trans (by assumption) hx
                have tt := hx.cell (by assumption)
                have k9 := k8.trans hx
                obtain ⟨b, off, rfl, hrx, hokx⟩ := (HV.out _ (by assumption)).at' hlt
                have d0 := rangeAt_head hrx (Node.at33 hokx)
                change World.cell? _ _ = some (.int .u64 (Tree.nd t k).slot) at d0
                generalize (Tree.nd t k).slot = z at d0 hsl
                have gz : ¬ (z : Int) ≤ s := by omega
                have gz2 : decide (z ≤ s) = false := decide_eq_false (by omega)
                clear hrx hokx hx1 hy1
                go_wp2
                go_roundw
                case rel => exact ⟨k + 1, by omega, by go_num, by assumption⟩
                case measure => simp [intOf]; omega
          · have e : k = tn := by omega
            subst e
            go_wp2_with fail
            refine (HA.out a i true (by assumption) (by assumption) (by assumption) _ (by assumption)).mono ?_
            rintro e w' ⟨rfl, hx⟩
            have kk : Ext w _ := Ext.trans (by assumption) hx
            have tt := hx.cell (by assumption)
            obtain ⟨b, off, rfl, hrx, hokx⟩ := (HV.out _ (by assumption)).at' (i := a) (by omega)
            have d0 := rangeAt_head hrx (Node.at33 hokx)
            change World.cell? _ _ = some (.int .u64 (Tree.nd t a).slot) at d0
            generalize (Tree.nd t a).slot = z at d0 has
            have gz : (z : Int) ≤ s := by omega
            have ga2 : (a : Int) < k := by omega
            clear hrx hokx haa
            rcases HBS.out with rfl | ⟨bq, rfl, hbi, hba⟩
            · go_wp2
              go_ret
              exact ⟨rfl, by assumption⟩
            · have wb : (Lit.int .i64 (bq : Int)).wf = true := wf_i64 (by omega) (by omega)
              have gb : ((bq : Int) == -1) = false := by first | (simp; done) | (simp; omega)
              go_wp2_with fail
              refine (HA.out bq a true (by assumption) (by assumption) (by assumption) _ (by assumption)).mono ?_
              rintro e w' ⟨rfl, hx⟩
              have kk : Ext w _ := Ext.trans (by assumption) hx
              have tt := hx.cell (by assumption)
              clear hba
              go_wp2
              go_ret
              exact ⟨rfl, by assumption⟩
    · go_enter Try.func4, Try.ntmps4
      try simp only [List.append_eq, List.cons_append, List.nil_append]
      go_wp2_with fail
      refine (HAW.out _).mono ?_
      rintro e0 w0 ⟨rfl, hx0⟩
      have k0 : Ext w w0 := Ext.trans ((by repeat (first | assumption | exact Ext.refl _ | refine Ext.alloc ?_ _ | refine Ext.drew ?_ | refine Ext.drewN ?_ _ | refine Ext.setCell ?_ (by first | (simp; done) | omega | (simp; omega)) _ | refine Ext.trans (by assumption) ?_))) hx0
      have t0 := hx0.cell (p := ⟨w.heap.size, 0, none⟩) (v := .slice tA tn tc) (by first | (simp; done) | (simp (maxDischargeDepth := 7) [go_sem]; done))
      go_wp2_with fail
      refine (HM.out true hm _ k0).mono ?_
      rintro e1 w1 ⟨rfl, hx1⟩
      have k1 : Ext w w1 := k0.trans hx1
      replace t0 := hx1.cell t0
      clear HAW HM HV
      go_wp2_with fail
      all_goals (first | (go_ret; exact ⟨rfl, k1⟩) | (exfalso; apply hok; refine ⟨?_, ?_, ?_⟩ <;> omega))
set_option maxRecDepth 100000 in
theorem TreeAt_lifted (os : Os) (started : os.Started) (H : Type) (enc : TypeId × Value → H) :
    ReturnsInHanded {} Try.checked os 4 .any (Rows.treeAtSpec.pre6 enc Try.prog Try.f4 Rows.treeAtRow.domain false) (Rows.treeAtSpec.post enc Try.prog Try.f4 false true false false) := by
  refine returnsInHanded_of_change_sized (C := Try.checked) own started (by kernel_rfl) Try.func4
    (ChangeSpec.witness6 (enc := enc) (C := Try.checked) false ⟨#[], #[.agg #[.slice none 0 0], .int .i64 0, .int .u64 0, .int .u64 0], []⟩ 8 (by kernel_rfl) (by kernel_rfl) (by kernel_rfl) (by kernel_rfl)) ?_
  intro W base args ds gs before hval0 hW _hcnd hsz0 _
  have hval : ∀ (j : Nat) t v, Try.f4.params[j]? = some t → args[j]? = some v → Value.okWide Try.prog W .any base t v := hval0
  have hsz : (DataW.weightsEach Try.prog (Try.f4.params.toList ++ Rows.treeAtSpec.plain.varTypes Try.prog) (ds ++ gs)).all (· ≤ reachBytes) = true := hsz0
  have hW' := hW
  obtain ⟨p, q, hA0, hV, rfl, hfz, hnd⟩ := hW
  have hA : DataW.TrodAll enc Try.prog W 0 (fun _ => true) true Try.f4.params.toList args.toList ds p := hA0
  rw [Try.params4] at hA hval hsz
  obtain ⟨v0, vs0, d0, ds0, p0, q0, hargs, rfl, rfl, h0, r0⟩ := trodAll_cons hA
  obtain ⟨v1, vs1, d1, ds1, p1, q1, rfl, rfl, rfl, h1, r1⟩ := trodAll_cons r0
  obtain ⟨v2, vs2, d2, ds2, p2, q2, rfl, rfl, rfl, h2, r2⟩ := trodAll_cons r1
  obtain ⟨v3, vs3, d3, ds3, p3, q3, rfl, rfl, rfl, h3, r3⟩ := trodAll_cons r2
  obtain ⟨rfl, rfl, rfl⟩ := trodAll_nil r3
  obtain rfl : args = #[v0, v1, v2, v3] := by cases args; simp_all
  obtain ⟨rfl, rfl⟩ := trodVars_none hV
  have h0k := h0
  have h1k := h1
  have h2k := h2
  have h3k := h3
  have hlt0 : ∀ x ∈ p0, x.block < W.heap.size := fun x hx => by have := hW'.lt x (by simp [hx]); simpa using this
  have hlt1 : ∀ x ∈ p1, x.block < W.heap.size := fun x hx => by have := hW'.lt x (by simp [hx]); simpa using this
  have hlt2 : ∀ x ∈ p2, x.block < W.heap.size := fun x hx => by have := hW'.lt x (by simp [hx]); simpa using this
  have hlt3 : ∀ x ∈ p3, x.block < W.heap.size := fun x hx => by have := hW'.lt x (by simp [hx]); simpa using this
  obtain ⟨tA, tn, tc, t, rfl, ht⟩ := open_tree (hval 0 24 v0 rfl rfl) h0 hsz (j := 0) rfl rfl
  obtain ⟨i, rfl, hi1, hi2⟩ := open_I64 Try.underlying3 (hval 1 3 v1 rfl rfl) h1
  obtain ⟨s, rfl, hs⟩ := open_U64 Try.underlying29 (hval 2 29 v2 rfl rfl) h2
  obtain ⟨l, rfl, hl⟩ := open_U64 Try.underlying29 (hval 3 29 v3 rfl rfl) h3
  clear hA0 hval0
  simp only [List.append_nil] at hW'
  refine (TreeAt_walk tA tn tc t ht i hi1 hi2 s hs l hl (w := W)).mono fun e W' ⟨he, hg⟩ => ?_
  subst he
  exact ⟨_, rfl, post_law (pa := p0 ++ (p1 ++ (p2 ++ (p3 ++ [])))) (pv := []) hW' (fun _ _ _ => (trodAll_cons_mk (shut_bool Try.underlying4 _) trodAll_mk0))
    (trodAll_cons_mk (Below.trod laidOut (by kernel_rfl) (of_decide_eq_true (by kernel_rfl)) h0k hg.out hlt0) (trodAll_cons_mk (Below.trod laidOut (by kernel_rfl) (of_decide_eq_true (by kernel_rfl)) h1k hg.out hlt1) (trodAll_cons_mk (Below.trod laidOut (by kernel_rfl) (of_decide_eq_true (by kernel_rfl)) h2k hg.out hlt2) (trodAll_cons_mk (Below.trod laidOut (by kernel_rfl) (of_decide_eq_true (by kernel_rfl)) h3k hg.out hlt3) trodAll_mk0)))) rfl (by simp) hg⟩
theorem TreeAt_holds : Rows.TreeAtSaid :=
  OpenClaim.holds_of_wide 4 Try.f4 rfl rfl rfl rfl rfl rfl rfl ⟨rfl, rfl, rfl, rfl, rfl⟩ rfl rfl rfl rfl rfl (by kernel_rfl) Try.func4 (by kernel_rfl)
    (of_decide_eq_true (by kernel_rfl)) (by unfold Func.isWrapper; first | (rw [if_pos (by decide +kernel)]; kernel_rfl) | (rw [if_neg (by decide +kernel)]; exact ⟨rfl, rfl⟩))
    (fun os started H enc _ => TreeAt_lifted os started H enc)
#print axioms TreeAt_holds
end Go.Proofs.Ytoifhpcpahfddaa
