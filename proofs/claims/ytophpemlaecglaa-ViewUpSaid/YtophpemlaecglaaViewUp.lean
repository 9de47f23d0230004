/- ViewUp: whose child leads on does, and with more justified than any node has none does; for every tree, number and places. -/
import Derived.Test.YtophpemlaecglaaViewLaw
namespace Go.Proofs.Ytophpemlaecglaa
open Go.RowKit Go.WideShapes Go.ChangeShapes
set_option linter.unusedVariables false
set_option linter.unusedSimpArgs false
set_option linter.unusedSectionVars false






set_option maxHeartbeats 2000000 in
theorem ViewUp_walk {w : World} (tA : Option Addr) (tn tc : Nat) (t : List Node) (ht : NL w tA tn tc t) (j : Nat) (hj : j < 18446744073709551616) (f : Int) (f1 : -9223372036854775808 ≤ f) (f2 : f ≤ 9223372036854775807) (i : Int) (i1 : -9223372036854775808 ≤ i) (i2 : i ≤ 9223372036854775807) :
    Calls Try.prog 7 #[.agg #[.slice tA tn tc], .int .u64 j, .int .i64 f, .int .i64 i] w fun e' w' => e' = .returned (.bool true) ∧ Ext w w' := by
  have hlen := ht.len
  have hroom := ht.row.room
  have HAW := Lib.hid (fun W => awake_any W)
  have HV := Lib.hid (fun W (k : Ext w W) => ht.ext k)
  have HM := Lib.hid (fun b (hb : Tree.mayV t = b) W (k : Ext w W) => treeMay_is tA tn tc t b hb W (ht.ext k))
  cases hm : Tree.mayV t with
  | false =>
    go_enter Try.func7, Try.ntmps7
    try simp only [List.append_eq, List.cons_append, List.nil_append]
    go_wp2_with fail
    refine (HAW.out _).mono ?_
    rintro e0 w0 ⟨rfl, hx0⟩
    have k0 : Ext w w0 := Ext.trans ((by repeat (first | assumption | exact Ext.refl _ | refine Ext.alloc ?_ _ | refine Ext.drew ?_ | refine Ext.drewN ?_ _ | refine Ext.setCell ?_ (by first | (simp; done) | omega | (simp; omega)) _ | refine Ext.trans (by assumption) ?_))) hx0
    have t0 := hx0.cell (p := ⟨w.heap.size, 0, none⟩) (v := .slice tA tn tc) (by first | (simp; done) | (simp (maxDischargeDepth := 7) [go_sem]; done))
    go_wp2_with fail
    refine (HM.out false hm _ k0).mono ?_
    rintro e1 w1 ⟨rfl, hx1⟩
    have k1 : Ext w w1 := k0.trans hx1
    replace t0 := hx1.cell t0
    go_wp2
    go_ret
    exact ⟨rfl, k1⟩
  | true =>
    have wf := wf_i64 f1 f2
    by_cases hok : 1 ≤ i ∧ i < tn
    · obtain ⟨i0, hin⟩ := hok
      obtain ⟨i, rfl⟩ := Int.eq_ofNat_of_zero_le (show 0 ≤ i by omega)
      replace hin : i < tn := by omega
      have gin : (i : Int) < tn := by omega
      have li : i < t.length := by omega
      have h12 := Tree.len_le hm
      rw [hlen] at h12
      have HL := Lib.hid (fun j (hj : j < 18446744073709551616) W (kx : Ext w W) => vleads_may tA tn tc t hm j hj f wf W (ht.ext kx))
      obtain ⟨p0, p1, hp⟩ := Tree.par_pos hm li (by omega)
      have hup := fun h => View.lead_up (T := t) (j := j) (f := f) (i := i) (by omega) h
      have hun := Tree.up_lt t (k := i) (by omega)
      generalize Tree.up t i = u at *
      have HNX : Hid (∀ (q : Nat), (∀ y, y < tn → (Tree.nd t y).just < q) → ∀ k, View.leadB t q f k = false) := fun q hq k => View.lead_more hm (fun y hy => hq y (by omega))
      generalize View.leadB t = ld at *
      have r1 : decide ((i : Int) < 1) = false := decide_eq_false (by omega)
      have q2 : decide (tn ≤ i) = false := decide_eq_false (by omega)
      have HUP := Lib.hid hup
      have HPU := Lib.hid hp
      clear hup hp p0 p1
      go_enter Try.func7, Try.ntmps7
      try simp only [List.append_eq, List.cons_append, List.nil_append]
      go_wp2_with fail
      refine (HAW.out _).mono ?_
      rintro e0 w0 ⟨rfl, hx0⟩
      have k0 : Ext w w0 := Ext.trans ((by repeat (first | assumption | exact Ext.refl _ | refine Ext.alloc ?_ _ | refine Ext.drew ?_ | refine Ext.drewN ?_ _ | refine Ext.setCell ?_ (by first | (simp; done) | omega | (simp; omega)) _ | refine Ext.trans (by assumption) ?_))) hx0
      have t0 := hx0.cell (p := ⟨w.heap.size, 0, none⟩) (v := .slice tA tn tc) (by first | (simp; done) | (simp (maxDischargeDepth := 7) [go_sem]; done))
      go_wp2_with fail
      refine (HM.out true hm _ k0).mono ?_
      rintro e1 w1 ⟨rfl, hx1⟩
      have k1 : Ext w w1 := k0.trans hx1
      replace t0 := hx1.cell t0
      clear HAW HM hm
      go_wp2_with fail
      refine (HL.out j hj _ k1).mono ?_
      rintro e2 w2 ⟨⟨B, d, rfl, hB⟩, hx2⟩
      have k2 : Ext w w2 := k1.trans hx2
      replace t0 := hx2.cell t0
      have T0 := Lib.hid t0
      have H2 := Lib.hid (fun W (kx : Ext w2 W) => hB.ext kx)
      clear t0 hB
      go_wp2
      go_loopw [11, 12] (fun m' k' wr => ∃ k m : Nat, k ≤ tn ∧ k' = .int .i64 k ∧ m' = .int .u64 m ∧ m < 18446744073709551616 ∧ (∀ y, y < k → (Tree.nd t y).just ≤ m) ∧ Ext w2 wr) (fun _ k' _ => tn - (intOf k').toNat)
      case atStart => exact ⟨0, 0, Nat.zero_le _, rfl, rfl, by omega, fun y h => absurd h (Nat.not_lt_zero y), Ext.refl _⟩
      case round =>
        obtain ⟨k, m, hk, rfl, rfl, hmm, hall, hxr⟩ := hrel
        have k3 := k2.trans hxr
        have t0 := hxr.cell T0.out
        have HALL := Lib.hid hall
        clear hall
        by_cases hlt : k < tn
        · have gk : (k : Int) < tn := by omega
          obtain ⟨b, off, rfl, hrx, hokx⟩ := (HV.out _ k3).at' hlt
          have d0 := rangeAt_head hrx (Node.at34 hokx)
          change World.cell? _ _ = some (.int .u64 (Tree.nd t k).just) at d0
          have hjl := hokx.2.2.2
          change (Tree.nd t k).just < _ at hjl
          obtain ⟨x, hx⟩ : ∃ x, (Tree.nd t k).just = x := ⟨_, rfl⟩
          rw [hx] at d0 hjl
          have HX := Lib.hid hx
          clear hrx hokx hx
          by_cases hgt : m < x
          · have g1 : (m : Int) < x := by omega
            clear hgt
            go_wp2
            go_roundw
            case rel =>
              have hs' : ∀ y, y < k + 1 → (Tree.nd t y).just ≤ x := fun y hy => by
                rcases Nat.lt_or_eq_of_le (Nat.lt_succ_iff.1 hy) with h | rfl
                · have := HALL.out y h; omega
                · rw [HX.out]; exact Nat.le_refl _
              exact ⟨k + 1, x, by omega, by go_num, rfl, hjl, hs', hxr⟩
            case measure => simp [intOf]; omega
          · have g1 : ¬ (m : Int) < x := by omega
            have hs' : Hid (∀ y, y < k + 1 → (Tree.nd t y).just ≤ m) := fun y hy => by
              rcases Nat.lt_or_eq_of_le (Nat.lt_succ_iff.1 hy) with h | rfl
              · exact HALL.out y h
              · rw [HX.out]; omega
            clear hgt
            go_wp2
            go_roundw
            case rel => exact ⟨k + 1, m, by omega, by go_num, rfl, hmm, hs'.out, hxr⟩
            case measure => simp [intOf]; omega
        · have gk : ¬ (k : Int) < tn := by omega
          have ek : k = tn := by omega
          obtain ⟨q, hq, hw, hq6⟩ : ∃ q : Nat, q < 18446744073709551616 ∧ IntKind.u64.wrap ((m : Int) + 1) = (q : Int) ∧ (m < 1152921504606846976 → q = m + 1) := ⟨(m + 1) % 18446744073709551616, Nat.mod_lt _ (by omega), by rw [IntKind.wrap_u64]; omega, fun h => by omega⟩
          have HNO : Hid (m < 1152921504606846976 → ∀ k, ld q f k = false) := fun h k' => by
            refine HNX.out q (fun y hy => ?_) k'
            have := HALL.out y (by omega)
            have := hq6 h
            omega
          obtain ⟨bl, ol, rfl, cs⟩ := H2.out _ hxr (by omega)
          have vi := cs i hin
          have vu := cs u (by omega)
          clear cs hq6
          cases hb : ld j f i with
          | true =>
            rw [hb] at vi
            rw [HUP.out hb] at vu
            obtain ⟨b, off, rfl, hrx, hokx⟩ := (HV.out _ k3).at' hin
            have dp := rangeAt_head hrx (Node.at32 hokx)
            change World.cell? _ _ = some (.int .i64 (Tree.nd t i).par) at dp
            rw [HPU.out] at dp
            have gu : (u : Int) < tn := by omega
            clear hrx hokx hb
            go_wp2_with fail
            refine (HL.out q hq _ k3).mono ?_
            rintro e4 w4 ⟨⟨B4, d4, rfl, h4⟩, hx4⟩
            have k4 : Ext w w4 := k3.trans hx4
            have H4 := Lib.hid (fun W (kx : Ext w4 W) => h4.ext kx)
            clear h4
            go_wp2
            go_loopw [14] (fun k' wr => ∃ k : Nat, k ≤ tn ∧ k' = .int .i64 k ∧ Ext w4 wr) (fun k' _ => tn - (intOf k').toNat)
            case atStart => exact ⟨0, Nat.zero_le _, rfl, Ext.refl _⟩
            case round =>
              obtain ⟨k, hk, rfl, hxr⟩ := hrel
              have kk := k4.trans hxr
              by_cases hlt : k < tn
              · have gk : (k : Int) < tn := by omega
                by_cases hm6 : m < 1152921504606846976
                · have g6 : (m : Int) < 1152921504606846976 := by omega
                  obtain ⟨b4, o4, rfl, c4⟩ := H4.out _ hxr (by omega)
                  have v4 := c4 k hlt
                  rw [HNO.out hm6 k] at v4
                  clear c4 hm6
                  go_wp2
                  go_roundw
                  case rel => exact ⟨k + 1, by omega, by go_num, by assumption⟩
                  case measure => simp [intOf]; omega
                · have g6 : ¬ (m : Int) < 1152921504606846976 := by omega
                  clear hm6
                  go_wp2
                  go_ret
                  exact ⟨rfl, kk⟩
              · have gk : ¬ (k : Int) < tn := by omega
                go_wp2
                go_ret
                exact ⟨rfl, kk⟩
          | false =>
            rw [hb] at vi
            clear vu hb
            go_wp2_with fail
            refine (HL.out q hq _ k3).mono ?_
            rintro e4 w4 ⟨⟨B4, d4, rfl, h4⟩, hx4⟩
            have k4 : Ext w w4 := k3.trans hx4
            have H4 := Lib.hid (fun W (kx : Ext w4 W) => h4.ext kx)
            clear h4
            go_wp2
            go_loopw [14] (fun k' wr => ∃ k : Nat, k ≤ tn ∧ k' = .int .i64 k ∧ Ext w4 wr) (fun k' _ => tn - (intOf k').toNat)
            case atStart => exact ⟨0, Nat.zero_le _, rfl, Ext.refl _⟩
            case round =>
              obtain ⟨k, hk, rfl, hxr⟩ := hrel
              have kk := k4.trans hxr
              by_cases hlt : k < tn
              · have gk : (k : Int) < tn := by omega
                by_cases hm6 : m < 1152921504606846976
                · have g6 : (m : Int) < 1152921504606846976 := by omega
                  obtain ⟨b4, o4, rfl, c4⟩ := H4.out _ hxr (by omega)
                  have v4 := c4 k hlt
                  rw [HNO.out hm6 k] at v4
                  clear c4 hm6
                  go_wp2
                  go_roundw
                  case rel => exact ⟨k + 1, by omega, by go_num, by assumption⟩
                  case measure => simp [intOf]; omega
                · have g6 : ¬ (m : Int) < 1152921504606846976 := by omega
                  clear hm6
                  go_wp2
                  go_ret
                  exact ⟨rfl, kk⟩
              · have gk : ¬ (k : Int) < tn := by omega
                go_wp2
                go_ret
                exact ⟨rfl, kk⟩
    · go_enter Try.func7, Try.ntmps7
      try simp only [List.append_eq, List.cons_append, List.nil_append]
      go_wp2_with fail
      refine (HAW.out _).mono ?_
      rintro e0 w0 ⟨rfl, hx0⟩
      have k0 : Ext w w0 := Ext.trans ((by repeat (first | assumption | exact Ext.refl _ | refine Ext.alloc ?_ _ | refine Ext.drew ?_ | refine Ext.drewN ?_ _ | refine Ext.setCell ?_ (by first | (simp; done) | omega | (simp; omega)) _ | refine Ext.trans (by assumption) ?_))) hx0
      have t0 := hx0.cell (p := ⟨w.heap.size, 0, none⟩) (v := .slice tA tn tc) (by first | (simp; done) | (simp (maxDischargeDepth := 7) [go_sem]; done))
      go_wp2_with fail
      refine (HM.out true hm _ k0).mono ?_
      rintro e1 w1 ⟨rfl, hx1⟩
      have k1 : Ext w w1 := k0.trans hx1
      replace t0 := hx1.cell t0
      clear HAW HM HV
      go_wp2_with fail
      all_goals (first | (go_ret; exact ⟨rfl, k1⟩) | (exfalso; apply hok; refine ⟨?_, ?_⟩ <;> omega))
set_option maxRecDepth 100000 in
theorem ViewUp_lifted (os : Os) (started : os.Started) (H : Type) (enc : TypeId × Value → H) :
    ReturnsInHanded {} Try.checked os 7 .any (Rows.viewUpSpec.pre6 enc Try.prog Try.f7 Rows.viewUpRow.domain false) (Rows.viewUpSpec.post enc Try.prog Try.f7 false true false false) := by
  refine returnsInHanded_of_change_sized (C := Try.checked) own started (by kernel_rfl) Try.func7
    (ChangeSpec.witness6 (enc := enc) (C := Try.checked) false ⟨#[], #[.agg #[.slice none 0 0], .int .u64 0, .int .i64 0, .int .i64 0], []⟩ 8 (by kernel_rfl) (by kernel_rfl) (by kernel_rfl) (by kernel_rfl)) ?_
  intro W base args ds gs before hval0 hW _hcnd hsz0 _
  have hval : ∀ (j : Nat) t v, Try.f7.params[j]? = some t → args[j]? = some v → Value.okWide Try.prog W .any base t v := hval0
  have hsz : (DataW.weightsEach Try.prog (Try.f7.params.toList ++ Rows.viewUpSpec.plain.varTypes Try.prog) (ds ++ gs)).all (· ≤ reachBytes) = true := hsz0
  have hW' := hW
  obtain ⟨p, q, hA0, hV, rfl, hfz, hnd⟩ := hW
  have hA : DataW.TrodAll enc Try.prog W 0 (fun _ => true) true Try.f7.params.toList args.toList ds p := hA0
  rw [Try.params7] at hA hval hsz
  obtain ⟨v0, vs0, d0, ds0, p0, q0, hargs, rfl, rfl, h0, r0⟩ := trodAll_cons hA
  obtain ⟨v1, vs1, d1, ds1, p1, q1, rfl, rfl, rfl, h1, r1⟩ := trodAll_cons r0
  obtain ⟨v2, vs2, d2, ds2, p2, q2, rfl, rfl, rfl, h2, r2⟩ := trodAll_cons r1
  obtain ⟨v3, vs3, d3, ds3, p3, q3, rfl, rfl, rfl, h3, r3⟩ := trodAll_cons r2
  obtain ⟨rfl, rfl, rfl⟩ := trodAll_nil r3
  obtain rfl : args = #[v0, v1, v2, v3] := by cases args; simp_all
  obtain ⟨rfl, rfl⟩ := trodVars_none hV
  have h0k := h0
  have h1k := h1
  have h2k := h2
  have h3k := h3
  have hlt0 : ∀ x ∈ p0, x.block < W.heap.size := fun x hx => by have := hW'.lt x (by simp [hx]); simpa using this
  have hlt1 : ∀ x ∈ p1, x.block < W.heap.size := fun x hx => by have := hW'.lt x (by simp [hx]); simpa using this
  have hlt2 : ∀ x ∈ p2, x.block < W.heap.size := fun x hx => by have := hW'.lt x (by simp [hx]); simpa using this
  have hlt3 : ∀ x ∈ p3, x.block < W.heap.size := fun x hx => by have := hW'.lt x (by simp [hx]); simpa using this
  obtain ⟨tA, tn, tc, t, rfl, ht⟩ := open_tree (hval 0 24 v0 rfl rfl) h0 hsz (j := 0) rfl rfl
  obtain ⟨j, rfl, hj⟩ := open_U64 Try.underlying25 (hval 1 25 v1 rfl rfl) h1
  obtain ⟨f, rfl, hf1, hf2⟩ := open_I64 Try.underlying3 (hval 2 3 v2 rfl rfl) h2
  obtain ⟨i, rfl, hi1, hi2⟩ := open_I64 Try.underlying3 (hval 3 3 v3 rfl rfl) h3
  clear hA0 hval0
  simp only [List.append_nil] at hW'
  refine (ViewUp_walk tA tn tc t ht j hj f hf1 hf2 i hi1 hi2 (w := W)).mono fun e W' ⟨he, hg⟩ => ?_
  subst he
  exact ⟨_, rfl, post_law (pa := p0 ++ (p1 ++ (p2 ++ (p3 ++ [])))) (pv := []) hW' (fun _ _ _ => (trodAll_cons_mk (shut_bool Try.underlying4 _) trodAll_mk0))
    (trodAll_cons_mk (Below.trod laidOut (by kernel_rfl) (of_decide_eq_true (by kernel_rfl)) h0k hg.out hlt0) (trodAll_cons_mk (Below.trod laidOut (by kernel_rfl) (of_decide_eq_true (by kernel_rfl)) h1k hg.out hlt1) (trodAll_cons_mk (Below.trod laidOut (by kernel_rfl) (of_decide_eq_true (by kernel_rfl)) h2k hg.out hlt2) (trodAll_cons_mk (Below.trod laidOut (by kernel_rfl) (of_decide_eq_true (by kernel_rfl)) h3k hg.out hlt3) trodAll_mk0)))) rfl (by simp) hg⟩
theorem ViewUp_holds : Rows.ViewUpSaid :=
  OpenClaim.holds_of_wide 7 Try.f7 rfl rfl rfl rfl rfl rfl rfl ⟨rfl, rfl, rfl, rfl, rfl⟩ rfl rfl rfl rfl rfl (by kernel_rfl) Try.func7 (by kernel_rfl)
    (of_decide_eq_true (by kernel_rfl)) (by unfold Func.isWrapper; first | (rw [if_pos (by decide +kernel)]; kernel_rfl) | (rw [if_neg (by decide +kernel)]; exact ⟨rfl, rfl⟩))
    (fun os started H enc _ => ViewUp_lifted os started H enc)
#print axioms ViewUp_holds
end Go.Proofs.Ytophpemlaecglaa
