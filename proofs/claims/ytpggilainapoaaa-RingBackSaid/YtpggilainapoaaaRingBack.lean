/- RingBack: a number that is put, and taken, leaves an empty ring as it was; one that is taken is the first one; for every input. -/
import Derived.Test.YtpggilainapoaaaRingLaw
namespace Go.Proofs.Ytpggilainapoaaa
open Go.RowKit Go.WideShapes Go.ChangeShapes
set_option linter.unusedVariables false
set_option linter.unusedSimpArgs false

theorem back_facts {room : Int} (h2 : ¬ room < 2) (h8 : newB room = true) (x y : Int) : newR room = room ∧ pushRL room [] x = [x] ∧ pushRL room [x] y = [x, y] ∧ popRL room [x, y] = [y] ∧ popRV room [x, y] = x ∧ popRB room [x, y] = true ∧
    popRL room [y] = [] ∧ popRV room [y] = y ∧ popRB room [y] = true ∧ popRL room [] = [] ∧ popRB room [] = false := by
  have h8' := h8
  unfold newB mayB at h8'
  have h := of_decide_eq_true h8'
  have m : ∀ n : Nat, n ≤ 2 → mayB room n = true := fun n hn => decide_eq_true ⟨h.1, h.2.1, by omega⟩
  have e0 : ¬ (0 : Int) = room := by omega
  have e1 : ¬ (1 : Int) = room := by omega
  refine ⟨?_, ?_, ?_, ?_, ?_, ?_, ?_, ?_, ?_, ?_, ?_⟩
  · unfold newR; rw [show mayB room 0 = true from h8]; rfl
  all_goals simp [pushRL, pushL, popRL, popRV, popRB, popB, popV, m, e0, e1]
set_option maxHeartbeats 4000000 in
theorem RingBack_walk (room : Int) (hr1 : -9223372036854775808 ≤ room) (hr2 : room ≤ 9223372036854775807) (x : Int) (hx1 : -9223372036854775808 ≤ x) (hx2 : x ≤ 9223372036854775807) (y : Int) (hy1 : -9223372036854775808 ≤ y) (hy2 : y ≤ 9223372036854775807) (w : World) :
    Calls Try.prog 8 #[.int .i64 room, .int .i64 x, .int .i64 y] w fun e w' => e = .returned (.bool true) ∧ Ext w w' := by
  have wx : (Lit.int .i64 x).wf = true := wf_i64 hx1 hx2
  have wy : (Lit.int .i64 y).wf = true := wf_i64 hy1 hy2
  have hN := new_any room
  cases hB : newB room with
  | false =>
    rw [hB] at hN
    have HN := Lib.hid hN
    clear hN
    go_enter Try.func8, Try.ntmps8
    go_wp2_with fail
    refine (awake_any _).mono ?_
    rintro e w1 ⟨rfl, hx1⟩
    have k1 : Ext w w1 := Ext.trans ((by repeat (first | assumption | exact Ext.refl _ | refine Ext.alloc ?_ _ | refine Ext.drew ?_ | refine Ext.drewN ?_ _ | refine Ext.setCell ?_ (by first | (simp; done) | omega | (simp; omega)) _ | refine Ext.trans (by assumption) ?_))) hx1
    have z1 := k1.size
    go_wp2_with fail
    refine (HN.out _).mono ?_
    rintro e w2 ⟨v2, rfl, ⟨A2, n2, c2, rfl, I2⟩, hx2⟩
    have k2 : Ext w1 w2 := Ext.trans ((by repeat (first | assumption | exact Ext.refl _ | refine Ext.alloc ?_ _ | refine Ext.drew ?_ | refine Ext.drewN ?_ _ | refine Ext.setCell ?_ (by first | (simp; done) | omega | (simp; omega)) _ | refine Ext.trans (by assumption) ?_))) hx2
    have z2 := k2.size
    have H2 := Lib.hid (fun W (k : Ext w2 W) => I2.ext k)
    clear I2
    go_wp2
    go_ret
    exact ⟨rfl, (by repeat (first | assumption | exact Ext.refl _ | refine Ext.alloc ?_ _ | refine Ext.drew ?_ | refine Ext.drewN ?_ _ | refine Ext.setCell ?_ (by first | (simp; done) | omega | (simp; omega)) _ | refine Ext.trans (by assumption) ?_))⟩
  | true =>
    rw [hB] at hN
    by_cases h2 : room < 2
    · have HN := Lib.hid hN
      clear hN
      go_enter Try.func8, Try.ntmps8
      go_wp2_with fail
      refine (awake_any _).mono ?_
      rintro e w1 ⟨rfl, hx1⟩
      have k1 : Ext w w1 := Ext.trans ((by repeat (first | assumption | exact Ext.refl _ | refine Ext.alloc ?_ _ | refine Ext.drew ?_ | refine Ext.drewN ?_ _ | refine Ext.setCell ?_ (by first | (simp; done) | omega | (simp; omega)) _ | refine Ext.trans (by assumption) ?_))) hx1
      have z1 := k1.size
      go_wp2_with fail
      refine (HN.out _).mono ?_
      rintro e w2 ⟨v2, rfl, ⟨A2, n2, c2, rfl, I2⟩, hx2⟩
      have k2 : Ext w1 w2 := Ext.trans ((by repeat (first | assumption | exact Ext.refl _ | refine Ext.alloc ?_ _ | refine Ext.drew ?_ | refine Ext.drewN ?_ _ | refine Ext.setCell ?_ (by first | (simp; done) | omega | (simp; omega)) _ | refine Ext.trans (by assumption) ?_))) hx2
      have z2 := k2.size
      have H2 := Lib.hid (fun W (k : Ext w2 W) => I2.ext k)
      clear I2
      go_wp2
      go_ret
      exact ⟨rfl, (by repeat (first | assumption | exact Ext.refl _ | refine Ext.alloc ?_ _ | refine Ext.drew ?_ | refine Ext.drewN ?_ _ | refine Ext.setCell ?_ (by first | (simp; done) | omega | (simp; omega)) _ | refine Ext.trans (by assumption) ?_))⟩
    · obtain ⟨f1, f2, f3, f4, f5, f6, f7, f8, f9, f10, f11⟩ := back_facts h2 hB x y
      have P1 := fun A n c W h => ringPush_any A n c room [] x wx W h
      have P2 := fun A n c W h => ringPush_any A n c room [x] y wy W h
      have P3 := fun A n c W h => ringPop_any A n c room [x, y] W h
      have P4 := fun A n c W h => ringPop_any A n c room [y] W h
      have P5 := fun A n c W h => ringPop_any A n c room [] W h
      rw [f1] at hN
      simp only [f2] at P1
      simp only [f3] at P2
      simp only [f4, f5, f6] at P3
      simp only [f7, f8, f9] at P4
      simp only [f10, f11] at P5
      have HN := Lib.hid hN
      have H1 := Lib.hid P1
      have H2 := Lib.hid P2
      have HP3 := Lib.hid P3
      have HP4 := Lib.hid P4
      have HP5 := Lib.hid P5
      clear hN P1 P2 P3 P4 P5 f1 f2 f3 f4 f5 f6 f7 f8 f9 f10 f11 hB
      have Q1 := H1
      have Q2 := H2
      clear H1 H2
      go_enter Try.func8, Try.ntmps8
      go_wp2_with fail
      refine (awake_any _).mono ?_
      rintro e w1 ⟨rfl, hx1⟩
      have k1 : Ext w w1 := Ext.trans ((by repeat (first | assumption | exact Ext.refl _ | refine Ext.alloc ?_ _ | refine Ext.drew ?_ | refine Ext.drewN ?_ _ | refine Ext.setCell ?_ (by first | (simp; done) | omega | (simp; omega)) _ | refine Ext.trans (by assumption) ?_))) hx1
      have z1 := k1.size
      go_wp2_with fail
      refine (HN.out _).mono ?_
      rintro e w2 ⟨v2, rfl, ⟨A2, n2, c2, rfl, I2⟩, hx2⟩
      have k2 : Ext w1 w2 := Ext.trans ((by repeat (first | assumption | exact Ext.refl _ | refine Ext.alloc ?_ _ | refine Ext.drew ?_ | refine Ext.drewN ?_ _ | refine Ext.setCell ?_ (by first | (simp; done) | omega | (simp; omega)) _ | refine Ext.trans (by assumption) ?_))) hx2
      have z2 := k2.size
      have H2 := Lib.hid (fun W (k : Ext w2 W) => I2.ext k)
      clear I2
      go_wp2_with fail
      refine (Q1.out _ _ _ _ (H2.out _ ((by repeat (first | assumption | exact Ext.refl _ | refine Ext.alloc ?_ _ | refine Ext.drew ?_ | refine Ext.drewN ?_ _ | refine Ext.setCell ?_ (by first | (simp; done) | omega | (simp; omega)) _ | refine Ext.trans (by assumption) ?_))))).mono ?_
      rintro e w3 ⟨v3, rfl, ⟨A3, n3, c3, rfl, I3⟩, hx3⟩
      have k3 : Ext w2 w3 := Ext.trans ((by repeat (first | assumption | exact Ext.refl _ | refine Ext.alloc ?_ _ | refine Ext.drew ?_ | refine Ext.drewN ?_ _ | refine Ext.setCell ?_ (by first | (simp; done) | omega | (simp; omega)) _ | refine Ext.trans (by assumption) ?_))) hx3
      have z3 := k3.size
      have H3 := Lib.hid (fun W (k : Ext w3 W) => I3.ext k)
      clear I3
      go_wp2_with fail
      refine (Q2.out _ _ _ _ (H3.out _ ((by repeat (first | assumption | exact Ext.refl _ | refine Ext.alloc ?_ _ | refine Ext.drew ?_ | refine Ext.drewN ?_ _ | refine Ext.setCell ?_ (by first | (simp; done) | omega | (simp; omega)) _ | refine Ext.trans (by assumption) ?_))))).mono ?_
      rintro e w4 ⟨v4, rfl, ⟨A4, n4, c4, rfl, I4⟩, hx4⟩
      have k4 : Ext w3 w4 := Ext.trans ((by repeat (first | assumption | exact Ext.refl _ | refine Ext.alloc ?_ _ | refine Ext.drew ?_ | refine Ext.drewN ?_ _ | refine Ext.setCell ?_ (by first | (simp; done) | omega | (simp; omega)) _ | refine Ext.trans (by assumption) ?_))) hx4
      have z4 := k4.size
      have H4 := Lib.hid (fun W (k : Ext w4 W) => I4.ext k)
      clear I4
      go_wp2_with fail
      refine (HP3.out _ _ _ _ (H4.out _ ((by repeat (first | assumption | exact Ext.refl _ | refine Ext.alloc ?_ _ | refine Ext.drew ?_ | refine Ext.drewN ?_ _ | refine Ext.setCell ?_ (by first | (simp; done) | omega | (simp; omega)) _ | refine Ext.trans (by assumption) ?_))))).mono ?_
      rintro e w5 ⟨v5, rfl, ⟨A5, n5, c5, rfl, I5⟩, hx5⟩
      have k5 : Ext w4 w5 := Ext.trans ((by repeat (first | assumption | exact Ext.refl _ | refine Ext.alloc ?_ _ | refine Ext.drew ?_ | refine Ext.drewN ?_ _ | refine Ext.setCell ?_ (by first | (simp; done) | omega | (simp; omega)) _ | refine Ext.trans (by assumption) ?_))) hx5
      have z5 := k5.size
      have H5 := Lib.hid (fun W (k : Ext w5 W) => I5.ext k)
      clear I5
      have hn5 : n5 = 1 := (H5.out _ (Ext.refl _)).len.symm
      subst hn5
      go_wp2_with fail
      refine (HP4.out _ _ _ _ (H5.out _ ((by repeat (first | assumption | exact Ext.refl _ | refine Ext.alloc ?_ _ | refine Ext.drew ?_ | refine Ext.drewN ?_ _ | refine Ext.setCell ?_ (by first | (simp; done) | omega | (simp; omega)) _ | refine Ext.trans (by assumption) ?_))))).mono ?_
      rintro e w6 ⟨v6, rfl, ⟨A6, n6, c6, rfl, I6⟩, hx6⟩
      have k6 : Ext w5 w6 := Ext.trans ((by repeat (first | assumption | exact Ext.refl _ | refine Ext.alloc ?_ _ | refine Ext.drew ?_ | refine Ext.drewN ?_ _ | refine Ext.setCell ?_ (by first | (simp; done) | omega | (simp; omega)) _ | refine Ext.trans (by assumption) ?_))) hx6
      have z6 := k6.size
      have H6 := Lib.hid (fun W (k : Ext w6 W) => I6.ext k)
      clear I6
      have hn6 : n6 = 0 := (H6.out _ (Ext.refl _)).len.symm
      subst hn6
      obtain ⟨p0, p1, pf⟩ := hx6.box2 (B := w5.heap.size) (a := .int .i64 room) (b := .slice A5 1 c5) (by simp) (by simp) (by simp)
      have pl := lt_of_cell p0
      go_wp2_with fail
      refine (HP5.out _ _ _ _ (H6.out _ ((by repeat (first | assumption | exact Ext.refl _ | refine Ext.alloc ?_ _ | refine Ext.drew ?_ | refine Ext.drewN ?_ _ | refine Ext.setCell ?_ (by first | (simp; done) | omega | (simp; omega)) _ | refine Ext.trans (by assumption) ?_))))).mono ?_
      rintro e w7 ⟨v7, rfl, ⟨A7, n7, c7, rfl, I7⟩, hx7⟩
      have k7 : Ext w6 w7 := Ext.trans ((by repeat (first | assumption | exact Ext.refl _ | refine Ext.alloc ?_ _ | refine Ext.drew ?_ | refine Ext.drewN ?_ _ | refine Ext.setCell ?_ (by first | (simp; done) | omega | (simp; omega)) _ | refine Ext.trans (by assumption) ?_))) hx7
      have z7 := k7.size
      have H7 := Lib.hid (fun W (k : Ext w7 W) => I7.ext k)
      clear I7
      replace pf := k7.free p0 pf
      replace p0 := k7.cell p0
      replace p1 := k7.cell p1
      replace pl := lt_of_cell p0
      obtain ⟨q0, q1, qf⟩ := hx7.box2 (B := w6.heap.size) (a := .int .i64 room) (b := .slice A6 0 c6) (by simp) (by simp) (by simp)
      have ql := lt_of_cell q0
      go_wp2
      go_ret
      exact ⟨rfl, (by repeat (first | assumption | exact Ext.refl _ | refine Ext.alloc ?_ _ | refine Ext.drew ?_ | refine Ext.drewN ?_ _ | refine Ext.setCell ?_ (by first | (simp; done) | omega | (simp; omega)) _ | refine Ext.trans (by assumption) ?_))⟩
set_option maxRecDepth 100000 in
theorem RingBack_lifted (os : Os) (started : os.Started) (H : Type) (enc : TypeId × Value → H) :
    ReturnsInHanded {} Try.checked os 8 .any (Rows.ringBackSpec.pre6 enc Try.prog Try.f8 Rows.ringBackRow.domain false) (Rows.ringBackSpec.post enc Try.prog Try.f8 false true false false) := by
  refine returnsInHanded_of_change_sized (C := Try.checked) own started (by kernel_rfl) Try.func8
    (ChangeSpec.witness6 (enc := enc) (C := Try.checked) false ⟨#[], #[.int .i64 0, .int .i64 0, .int .i64 0], []⟩ 8 (by kernel_rfl) (by kernel_rfl) (by kernel_rfl) (by kernel_rfl)) ?_
  intro W base args ds gs before hval0 hW _hcnd hsz0 _
  have hval : ∀ (j : Nat) t v, Try.f8.params[j]? = some t → args[j]? = some v → Value.okWide Try.prog W .any base t v := hval0
  have hsz : (DataW.weightsEach Try.prog (Try.f8.params.toList ++ Rows.ringBackSpec.plain.varTypes Try.prog) (ds ++ gs)).all (· ≤ reachBytes) = true := hsz0
  have hW' := hW
  obtain ⟨p, q, hA0, hV, rfl, hfz, hnd⟩ := hW
  have hA : DataW.TrodAll enc Try.prog W 0 (fun _ => true) true Try.f8.params.toList args.toList ds p := hA0
  rw [Try.params8] at hA hval hsz
  obtain ⟨v0, vs0, d0, ds0, p0, q0, hargs, rfl, rfl, h0, r0⟩ := trodAll_cons hA
  obtain ⟨v1, vs1, d1, ds1, p1, q1, rfl, rfl, rfl, h1, r1⟩ := trodAll_cons r0
  obtain ⟨v2, vs2, d2, ds2, p2, q2, rfl, rfl, rfl, h2, r2⟩ := trodAll_cons r1
  obtain ⟨rfl, rfl, rfl⟩ := trodAll_nil r2
  obtain rfl : args = #[v0, v1, v2] := by cases args; simp_all
  obtain ⟨rfl, rfl⟩ := trodVars_none hV
  have h0k := h0
  have h1k := h1
  have h2k := h2
  have hlt0 : ∀ x ∈ p0, x.block < W.heap.size := fun x hx => by have := hW'.lt x (by simp [hx]); simpa using this
  have hlt1 : ∀ x ∈ p1, x.block < W.heap.size := fun x hx => by have := hW'.lt x (by simp [hx]); simpa using this
  have hlt2 : ∀ x ∈ p2, x.block < W.heap.size := fun x hx => by have := hW'.lt x (by simp [hx]); simpa using this
  obtain ⟨r, rfl, hr1, hr2⟩ := open_I64 Try.underlying3 (hval 0 3 v0 rfl rfl) h0
  obtain ⟨x, rfl, hx1, hx2⟩ := open_I64 Try.underlying3 (hval 1 3 v1 rfl rfl) h1
  obtain ⟨y, rfl, hy1, hy2⟩ := open_I64 Try.underlying3 (hval 2 3 v2 rfl rfl) h2
  clear hA0 hval0
  simp only [List.append_nil] at hW'
  refine (RingBack_walk r hr1 hr2 x hx1 hx2 y hy1 hy2 (w := W)).mono fun e W' ⟨he, hg⟩ => ?_
  subst he
  exact ⟨_, rfl, post_law (pa := p0 ++ (p1 ++ (p2 ++ []))) (pv := []) hW' (fun _ _ _ => (trodAll_cons_mk (shut_bool Try.underlying4 _) trodAll_mk0))
    (trodAll_cons_mk (Below.trod laidOut (by kernel_rfl) (of_decide_eq_true (by kernel_rfl)) h0k hg.out hlt0) (trodAll_cons_mk (Below.trod laidOut (by kernel_rfl) (of_decide_eq_true (by kernel_rfl)) h1k hg.out hlt1) (trodAll_cons_mk (Below.trod laidOut (by kernel_rfl) (of_decide_eq_true (by kernel_rfl)) h2k hg.out hlt2) trodAll_mk0))) rfl (by simp) hg⟩
theorem RingBack_holds : Rows.RingBackSaid :=
  OpenClaim.holds_of_wide 8 Try.f8 rfl rfl rfl rfl rfl rfl rfl ⟨rfl, rfl, rfl, rfl, rfl⟩ rfl rfl rfl rfl rfl (by kernel_rfl) Try.func8 (by kernel_rfl)
    (of_decide_eq_true (by kernel_rfl)) (by unfold Func.isWrapper; first | (rw [if_pos (by decide +kernel)]; kernel_rfl) | (rw [if_neg (by decide +kernel)]; exact ⟨rfl, rfl⟩))
    (fun os started H enc _ => RingBack_lifted os started H enc)
#print axioms RingBack_holds
end Go.Proofs.Ytpggilainapoaaa
