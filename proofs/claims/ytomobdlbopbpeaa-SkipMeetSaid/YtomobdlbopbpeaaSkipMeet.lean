/- SkipMeet: the last one above both is above both, all above both is above it, and it is the same either way round; for every tree and three places. -/
import Derived.Test.YtomobdlbopbpeaaSkipLaw
namespace Go.Proofs.Ytomobdlbopbpeaa
open Go.RowKit Go.WideShapes Go.ChangeShapes Go.Sort
set_option linter.unusedVariables false
set_option linter.unusedSimpArgs false
set_option linter.unusedSectionVars false






set_option maxHeartbeats 2000000 in
theorem SkipMeet_walk {w : World} (tA : Option Addr) (tn tc : Nat) (t : List Node) (ht : NL w tA tn tc t) (a : Int) (a1 : -9223372036854775808 ≤ a) (a2 : a ≤ 9223372036854775807) (b : Int) (b1 : -9223372036854775808 ≤ b) (b2 : b ≤ 9223372036854775807) (c : Int) (c1 : -9223372036854775808 ≤ c) (c2 : c ≤ 9223372036854775807) :
    Calls Try.prog 5 #[.agg #[.slice tA tn tc], .int .i64 a, .int .i64 b, .int .i64 c] w fun e' w' => e' = .returned (.bool true) ∧ Ext w w' := by
  have hlen := ht.len
  have hroom := ht.row.room
  have HAW := Lib.hid (fun W => awake_any W)
  have HV := Lib.hid (fun W (k : Ext w W) => ht.ext k)
  have HM := Lib.hid (fun b (hb : Tree.mayV t = b) W (k : Ext w W) => treeMay_is tA tn tc t b hb W (ht.ext k))
  cases hm : Tree.mayV t with
  | false =>
    go_enter Try.func5, Try.ntmps5
    try simp only [List.append_eq, List.cons_append, List.nil_append]
    go_wp2_with fail
    refine (HAW.out _).mono ?_
    rintro e0 w0 ⟨rfl, hx0⟩
    have k0 : Ext w w0 := Ext.trans ((by repeat (first | assumption | exact Ext.refl _ | refine Ext.alloc ?_ _ | refine Ext.drew ?_ | refine Ext.drewN ?_ _ | refine Ext.setCell ?_ (by first | (simp; done) | omega | (simp; omega)) _ | refine Ext.trans (by assumption) ?_))) hx0
    have t0 := hx0.cell (p := ⟨w.heap.size, 0, none⟩) (v := .slice tA tn tc) (by first | (simp; done) | (simp (maxDischargeDepth := 7) [go_sem]; done))
    go_wp2_with fail
    refine (HM.out false hm _ k0).mono ?_
    rintro e1 w1 ⟨rfl, hx1⟩
    have k1 : Ext w w1 := k0.trans hx1
    replace t0 := hx1.cell t0
    go_wp2
    go_ret
    exact ⟨rfl, k1⟩
  | true =>
    by_cases hok : (0 ≤ a ∧ a < tn) ∧ (0 ≤ b ∧ b < tn) ∧ 0 ≤ c ∧ c < tn
    · obtain ⟨⟨pa, qa⟩, ⟨pb, qb⟩, pc, qc⟩ := hok
      obtain ⟨a, rfl⟩ := Int.eq_ofNat_of_zero_le pa
      obtain ⟨b, rfl⟩ := Int.eq_ofNat_of_zero_le pb
      obtain ⟨c, rfl⟩ := Int.eq_ofNat_of_zero_le pc
      have la : a < t.length := by omega
      have lb : b < t.length := by omega
      have lc : c < t.length := by omega
      obtain ⟨m, hm1, hm2, hma, hmb, hla, hlb, hall, hiff⟩ := Skip.meet_full hm la lb
      have lm : m < t.length := by omega
      have wm : (Lit.int .i64 (m : Int)).wf = true := wf_i64 (by omega) (by omega)
      have wa := wf_i64 a1 a2
      have wb := wf_i64 b1 b2
      have wc := wf_i64 c1 c2
      have HM1 := Lib.hid (fun W (kx : Ext w W) => meet_is tA tn tc t a b m hm1 W (ht.ext kx))
      have HM2 := Lib.hid (fun W (kx : Ext w W) => meet_is tA tn tc t b a m hm2 W (ht.ext kx))
      have HMA := Lib.hid (fun W (kx : Ext w W) => above_is tA tn tc t m a wm wa true ((Tree.above_iff hm lm la).2 hla) W (ht.ext kx))
      have HMB := Lib.hid (fun W (kx : Ext w W) => above_is tA tn tc t m b wm wb true ((Tree.above_iff hm lm lb).2 hlb) W (ht.ext kx))
      obtain ⟨ab, hab⟩ : ∃ x, Tree.aboveV t a b = x := ⟨_, rfl⟩
      obtain ⟨ca, hca⟩ : ∃ x, Tree.aboveV t c a = x := ⟨_, rfl⟩
      obtain ⟨cb, hcb⟩ : ∃ x, Tree.aboveV t c b = x := ⟨_, rfl⟩
      have HAB := Lib.hid (fun W (kx : Ext w W) => above_is tA tn tc t a b wa wb ab hab W (ht.ext kx))
      have HCA := Lib.hid (fun W (kx : Ext w W) => above_is tA tn tc t c a wc wa ca hca W (ht.ext kx))
      have HCB := Lib.hid (fun W (kx : Ext w W) => above_is tA tn tc t c b wc wb cb hcb W (ht.ext kx))
      have hcm : ca = true → cb = true → Tree.aboveV t c m = true := fun h1 h2 => by
        subst h1 h2
        exact (Tree.above_iff hm lc lm).2 (hall c ((Tree.above_iff hm lc la).1 hca) ((Tree.above_iff hm lc lb).1 hcb))
      have HCM := Lib.hid (fun (h1 : ca = true) (h2 : cb = true) W (kx : Ext w W) => above_is tA tn tc t c m wc wm true (hcm h1 h2) W (ht.ext kx))
      have gma : ((m : Int) == a) = ab := by
        apply Bool.eq_iff_iff.2
        rw [← hab, Tree.above_iff hm la lb, ← hiff]
        simp
        omega
      have r1 : decide ((a : Int) < 0) = false := decide_eq_false (by omega)
      have r2 : decide ((b : Int) < 0) = false := decide_eq_false (by omega)
      have r3 : decide ((c : Int) < 0) = false := decide_eq_false (by omega)
      have s1 : decide (tn ≤ a) = false := decide_eq_false (by omega)
      have s2 : decide (tn ≤ b) = false := decide_eq_false (by omega)
      have s3 : decide (tn ≤ c) = false := decide_eq_false (by omega)
      clear hm1 hm2 hla hlb hall hiff hab hca hcb hcm
      go_enter Try.func5, Try.ntmps5
      try simp only [List.append_eq, List.cons_append, List.nil_append]
      go_wp2_with fail
      refine (HAW.out _).mono ?_
      rintro e0 w0 ⟨rfl, hx0⟩
      have k0 : Ext w w0 := Ext.trans ((by repeat (first | assumption | exact Ext.refl _ | refine Ext.alloc ?_ _ | refine Ext.drew ?_ | refine Ext.drewN ?_ _ | refine Ext.setCell ?_ (by first | (simp; done) | omega | (simp; omega)) _ | refine Ext.trans (by assumption) ?_))) hx0
      have t0 := hx0.cell (p := ⟨w.heap.size, 0, none⟩) (v := .slice tA tn tc) (by first | (simp; done) | (simp (maxDischargeDepth := 7) [go_sem]; done))
      go_wp2_with fail
      refine (HM.out true hm _ k0).mono ?_
      rintro e1 w1 ⟨rfl, hx1⟩
      have k1 : Ext w w1 := k0.trans hx1
      replace t0 := hx1.cell t0
      clear HAW HM HV hm ht
      go_wp2_with fail
      refine (HM1.out _ k1).mono ?_
      rintro e2 w2 ⟨rfl, hx2⟩
      have k2 : Ext w w2 := k1.trans hx2
      replace t0 := hx2.cell t0
      go_wp2_with fail
      refine (HMA.out _ k2).mono ?_
      rintro e3 w3 ⟨rfl, hx3⟩
      have k3 : Ext w w3 := k2.trans hx3
      replace t0 := hx3.cell t0
      go_wp2_with fail
      refine (HMB.out _ k3).mono ?_
      rintro e4 w4 ⟨rfl, hx4⟩
      have k4 : Ext w w4 := k3.trans hx4
      replace t0 := hx4.cell t0
      go_wp2_with fail
      refine (HM2.out _ k4).mono ?_
      rintro e5 w5 ⟨rfl, hx5⟩
      have k5 : Ext w w5 := k4.trans hx5
      replace t0 := hx5.cell t0
      go_wp2_with fail
      refine (HAB.out _ k5).mono ?_
      rintro e6 w6 ⟨rfl, hx6⟩
      have k6 : Ext w w6 := k5.trans hx6
      replace t0 := hx6.cell t0
      have gab : (ab != ab) = false := by simp
      go_wp2_with fail
      refine (HCA.out _ k6).mono ?_
      rintro e7 w7 ⟨rfl, hx7⟩
      have k7 : Ext w w7 := k6.trans hx7
      replace t0 := hx7.cell t0
      cases ca with
      | false =>
        go_wp2
        go_ret
        exact ⟨rfl, k7⟩
      | true =>
        go_wp2_with fail
        refine (HCB.out _ k7).mono ?_
        rintro e8 w8 ⟨rfl, hx8⟩
        have k8 : Ext w w8 := k7.trans hx8
        replace t0 := hx8.cell t0
        cases cb with
        | false =>
          go_wp2
          go_ret
          exact ⟨rfl, k8⟩
        | true =>
          go_wp2_with fail
          refine (HCM.out (by simp) (by simp) _ k8).mono ?_
          rintro e9 w9 ⟨rfl, hx9⟩
          go_wp2
          go_ret
          exact ⟨rfl, k8.trans hx9⟩
    · go_enter Try.func5, Try.ntmps5
      try simp only [List.append_eq, List.cons_append, List.nil_append]
      go_wp2_with fail
      refine (HAW.out _).mono ?_
      rintro e0 w0 ⟨rfl, hx0⟩
      have k0 : Ext w w0 := Ext.trans ((by repeat (first | assumption | exact Ext.refl _ | refine Ext.alloc ?_ _ | refine Ext.drew ?_ | refine Ext.drewN ?_ _ | refine Ext.setCell ?_ (by first | (simp; done) | omega | (simp; omega)) _ | refine Ext.trans (by assumption) ?_))) hx0
      have t0 := hx0.cell (p := ⟨w.heap.size, 0, none⟩) (v := .slice tA tn tc) (by first | (simp; done) | (simp (maxDischargeDepth := 7) [go_sem]; done))
      go_wp2_with fail
      refine (HM.out true hm _ k0).mono ?_
      rintro e1 w1 ⟨rfl, hx1⟩
      have k1 : Ext w w1 := k0.trans hx1
      replace t0 := hx1.cell t0
      clear HAW HM HV
      go_wp2_with fail
      all_goals (first | (go_ret; exact ⟨rfl, k1⟩) | (exfalso; apply hok; refine ⟨⟨?_, ?_⟩, ⟨?_, ?_⟩, ?_, ?_⟩ <;> omega))
set_option maxRecDepth 100000 in
theorem SkipMeet_lifted (os : Os) (started : os.Started) (H : Type) (enc : TypeId × Value → H) :
    ReturnsInHanded {} Try.checked os 5 .any (Rows.skipMeetSpec.pre6 enc Try.prog Try.f5 Rows.skipMeetRow.domain false) (Rows.skipMeetSpec.post enc Try.prog Try.f5 false true false false) := by
  refine returnsInHanded_of_change_sized (C := Try.checked) own started (by kernel_rfl) Try.func5
    (ChangeSpec.witness6 (enc := enc) (C := Try.checked) false ⟨#[], #[.agg #[.slice none 0 0], .int .i64 0, .int .i64 0, .int .i64 0], []⟩ 8 (by kernel_rfl) (by kernel_rfl) (by kernel_rfl) (by kernel_rfl)) ?_
  intro W base args ds gs before hval0 hW _hcnd hsz0 _
  have hval : ∀ (j : Nat) t v, Try.f5.params[j]? = some t → args[j]? = some v → Value.okWide Try.prog W .any base t v := hval0
  have hsz : (DataW.weightsEach Try.prog (Try.f5.params.toList ++ Rows.skipMeetSpec.plain.varTypes Try.prog) (ds ++ gs)).all (· ≤ reachBytes) = true := hsz0
  have hW' := hW
  obtain ⟨p, q, hA0, hV, rfl, hfz, hnd⟩ := hW
  have hA : DataW.TrodAll enc Try.prog W 0 (fun _ => true) true Try.f5.params.toList args.toList ds p := hA0
  rw [Try.params5] at hA hval hsz
  obtain ⟨v0, vs0, d0, ds0, p0, q0, hargs, rfl, rfl, h0, r0⟩ := trodAll_cons hA
  obtain ⟨v1, vs1, d1, ds1, p1, q1, rfl, rfl, rfl, h1, r1⟩ := trodAll_cons r0
  obtain ⟨v2, vs2, d2, ds2, p2, q2, rfl, rfl, rfl, h2, r2⟩ := trodAll_cons r1
  obtain ⟨v3, vs3, d3, ds3, p3, q3, rfl, rfl, rfl, h3, r3⟩ := trodAll_cons r2
  obtain ⟨rfl, rfl, rfl⟩ := trodAll_nil r3
  obtain rfl : args = #[v0, v1, v2, v3] := by cases args; simp_all
  obtain ⟨rfl, rfl⟩ := trodVars_none hV
  have h0k := h0
  have h1k := h1
  have h2k := h2
  have h3k := h3
  have hlt0 : ∀ x ∈ p0, x.block < W.heap.size := fun x hx => by have := hW'.lt x (by simp [hx]); simpa using this
  have hlt1 : ∀ x ∈ p1, x.block < W.heap.size := fun x hx => by have := hW'.lt x (by simp [hx]); simpa using this
  have hlt2 : ∀ x ∈ p2, x.block < W.heap.size := fun x hx => by have := hW'.lt x (by simp [hx]); simpa using this
  have hlt3 : ∀ x ∈ p3, x.block < W.heap.size := fun x hx => by have := hW'.lt x (by simp [hx]); simpa using this
  obtain ⟨tA, tn, tc, t, rfl, ht⟩ := open_tree (hval 0 24 v0 rfl rfl) h0 hsz (j := 0) rfl rfl
  obtain ⟨a, rfl, ha1, ha2⟩ := open_I64 Try.underlying3 (hval 1 3 v1 rfl rfl) h1
  obtain ⟨b, rfl, hb1, hb2⟩ := open_I64 Try.underlying3 (hval 2 3 v2 rfl rfl) h2
  obtain ⟨c, rfl, hc1, hc2⟩ := open_I64 Try.underlying3 (hval 3 3 v3 rfl rfl) h3
  clear hA0 hval0
  simp only [List.append_nil] at hW'
  refine (SkipMeet_walk tA tn tc t ht a ha1 ha2 b hb1 hb2 c hc1 hc2 (w := W)).mono fun e W' ⟨he, hg⟩ => ?_
  subst he
  exact ⟨_, rfl, post_law (pa := p0 ++ (p1 ++ (p2 ++ (p3 ++ [])))) (pv := []) hW' (fun _ _ _ => (trodAll_cons_mk (shut_bool Try.underlying4 _) trodAll_mk0))
    (trodAll_cons_mk (Below.trod laidOut (by kernel_rfl) (of_decide_eq_true (by kernel_rfl)) h0k hg.out hlt0) (trodAll_cons_mk (Below.trod laidOut (by kernel_rfl) (of_decide_eq_true (by kernel_rfl)) h1k hg.out hlt1) (trodAll_cons_mk (Below.trod laidOut (by kernel_rfl) (of_decide_eq_true (by kernel_rfl)) h2k hg.out hlt2) (trodAll_cons_mk (Below.trod laidOut (by kernel_rfl) (of_decide_eq_true (by kernel_rfl)) h3k hg.out hlt3) trodAll_mk0)))) rfl (by simp) hg⟩
theorem SkipMeet_holds : Rows.SkipMeetSaid :=
  OpenClaim.holds_of_wide 5 Try.f5 rfl rfl rfl rfl rfl rfl rfl ⟨rfl, rfl, rfl, rfl, rfl⟩ rfl rfl rfl rfl rfl (by kernel_rfl) Try.func5 (by kernel_rfl)
    (of_decide_eq_true (by kernel_rfl)) (by unfold Func.isWrapper; first | (rw [if_pos (by decide +kernel)]; kernel_rfl) | (rw [if_neg (by decide +kernel)]; exact ⟨rfl, rfl⟩))
    (fun os started H enc _ => SkipMeet_lifted os started H enc)
#print axioms SkipMeet_holds
end Go.Proofs.Ytomobdlbopbpeaa
