/- RingTells: any ring may be, or not, has one put behind, and the first one taken, and goes through any numbers, as the document says; for every input. -/
import Derived.Test.YtpggilainapoaaaRingLaw
namespace Go.Proofs.Ytpggilainapoaaa
open Go.RowKit Go.WideShapes Go.ChangeShapes
set_option linter.unusedVariables false
set_option linter.unusedSimpArgs false

theorem same_self (cap : Int) (L : List Int) (A : Option Addr) (n c : Nat) (B : Option Addr) (n' d : Nat) (w : World) (h : Ints w .i64 A n c L) (g : Ints w .i64 B n' d L) :
    Calls Try.prog 13 #[.agg #[.int .i64 cap, .slice A n c], .agg #[.int .i64 cap, .slice B n' d]] w fun e w' => e = .returned (.bool true) ∧ Ext w w' := by
  have k := ringSame_any A n c B n' d cap cap L L w h g
  rw [show eqR cap cap L L = true by simp [eqR, eqI]] at k
  exact k
theorem ints_self (L : List Int) (A : Option Addr) (n c : Nat) (B : Option Addr) (n' d : Nat) (w : World) (h : Ints w .i64 A n c L) (g : Ints w .i64 B n' d L) :
    Calls Try.prog 12 #[.slice A n c, .slice B n' d] w fun e w' => e = .returned (.bool true) ∧ Ext w w' := by
  have k := intsEq_any A n c B n' d L L w h g
  rw [show eqI L L = true by simp [eqI]] at k
  exact k
set_option maxHeartbeats 8000000 in
theorem RingTells_walk {w : World} (A : Option Addr) (n c : Nat) (cap : Int) (l : List Int) (hcap : (Lit.int .i64 cap).wf = true) (h : Ints w .i64 A n c l) (x : Int) (hx1 : -9223372036854775808 ≤ x) (hx2 : x ≤ 9223372036854775807) (B : Option Addr) (m d : Nat) (xs : List Int) (g : Ints w .i64 B m d xs) :
    Calls Try.prog 6 #[.agg #[.int .i64 cap, .slice A n c], .int .i64 x, .slice B m d] w fun e w' => e = .returned (.bool true) ∧ Ext w w' := by
  have wx : (Lit.int .i64 x).wf = true := wf_i64 hx1 hx2
  have hA := fun W (k : Ext w W) => h.ext k
  have hB := fun W (k : Ext w W) => g.ext k
  have HA := Lib.hid hA
  have HB := Lib.hid hB
  have hr1 := h.room
  have hr2 := g.room
  clear hA hB h g hcap
  by_cases h1 : (100 : Int) < n
  · go_enter Try.func6, Try.ntmps6
    go_wp2_with fail
    refine (awake_any _).mono ?_
    rintro e w1 ⟨rfl, hx1⟩
    have k1 : Ext w w1 := Ext.trans ((by repeat (first | assumption | exact Ext.refl _ | refine Ext.alloc ?_ _ | refine Ext.drew ?_ | refine Ext.drewN ?_ _ | refine Ext.setCell ?_ (by first | (simp; done) | omega | (simp; omega)) _ | refine Ext.trans (by assumption) ?_))) hx1
    have z1 := k1.size
    obtain ⟨r0, r1, rf⟩ := hx1.box2 (B := w.heap.size) (a := .int .i64 cap) (b := .slice A n c) (by simp) (by simp) (by simp)
    have rl := lt_of_cell r0
    go_wp2
    go_ret
    exact ⟨rfl, (by repeat (first | assumption | exact Ext.refl _ | refine Ext.alloc ?_ _ | refine Ext.drew ?_ | refine Ext.drewN ?_ _ | refine Ext.setCell ?_ (by first | (simp; done) | omega | (simp; omega)) _ | refine Ext.trans (by assumption) ?_))⟩
  · by_cases h2 : (100 : Int) < m
    · go_enter Try.func6, Try.ntmps6
      go_wp2_with fail
      refine (awake_any _).mono ?_
      rintro e w1 ⟨rfl, hx1⟩
      have k1 : Ext w w1 := Ext.trans ((by repeat (first | assumption | exact Ext.refl _ | refine Ext.alloc ?_ _ | refine Ext.drew ?_ | refine Ext.drewN ?_ _ | refine Ext.setCell ?_ (by first | (simp; done) | omega | (simp; omega)) _ | refine Ext.trans (by assumption) ?_))) hx1
      have z1 := k1.size
      obtain ⟨r0, r1, rf⟩ := hx1.box2 (B := w.heap.size) (a := .int .i64 cap) (b := .slice A n c) (by simp) (by simp) (by simp)
      have rl := lt_of_cell r0
      go_wp2
      go_ret
      exact ⟨rfl, (by repeat (first | assumption | exact Ext.refl _ | refine Ext.alloc ?_ _ | refine Ext.drew ?_ | refine Ext.drewN ?_ _ | refine Ext.setCell ?_ (by first | (simp; done) | omega | (simp; omega)) _ | refine Ext.trans (by assumption) ?_))⟩
    · go_enter Try.func6, Try.ntmps6
      go_wp2_with fail
      refine (awake_any _).mono ?_
      rintro e w1 ⟨rfl, hx1⟩
      have k1 : Ext w w1 := Ext.trans ((by repeat (first | assumption | exact Ext.refl _ | refine Ext.alloc ?_ _ | refine Ext.drew ?_ | refine Ext.drewN ?_ _ | refine Ext.setCell ?_ (by first | (simp; done) | omega | (simp; omega)) _ | refine Ext.trans (by assumption) ?_))) hx1
      have z1 := k1.size
      obtain ⟨r0, r1, rf⟩ := hx1.box2 (B := w.heap.size) (a := .int .i64 cap) (b := .slice A n c) (by simp) (by simp) (by simp)
      have rl := lt_of_cell r0
      go_wp2_with fail
      refine (ringPush_any _ _ _ _ _ x wx _ (HA.out _ ((by repeat (first | assumption | exact Ext.refl _ | refine Ext.alloc ?_ _ | refine Ext.drew ?_ | refine Ext.drewN ?_ _ | refine Ext.setCell ?_ (by first | (simp; done) | omega | (simp; omega)) _ | refine Ext.trans (by assumption) ?_))))).mono ?_
      rintro e w2 ⟨v2, rfl, ⟨A2, n2, c2, rfl, I2⟩, hx2⟩
      have k2 : Ext w1 w2 := Ext.trans ((by repeat (first | assumption | exact Ext.refl _ | refine Ext.alloc ?_ _ | refine Ext.drew ?_ | refine Ext.drewN ?_ _ | refine Ext.setCell ?_ (by first | (simp; done) | omega | (simp; omega)) _ | refine Ext.trans (by assumption) ?_))) hx2
      have z2 := k2.size
      have H2 := Lib.hid (fun W (k : Ext w2 W) => I2.ext k)
      clear I2
      replace rf := k2.free r0 rf
      replace r0 := k2.cell r0
      replace r1 := k2.cell r1
      replace rl := lt_of_cell r0
      go_wp2_with fail
      refine (refPush_any _ _ _ _ _ x wx _ (HA.out _ ((by repeat (first | assumption | exact Ext.refl _ | refine Ext.alloc ?_ _ | refine Ext.drew ?_ | refine Ext.drewN ?_ _ | refine Ext.setCell ?_ (by first | (simp; done) | omega | (simp; omega)) _ | refine Ext.trans (by assumption) ?_))))).mono ?_
      rintro e w3 ⟨v3, rfl, ⟨A3, n3, c3, rfl, I3, near3⟩, hx3⟩
      have k3 : Ext w2 w3 := Ext.trans ((by repeat (first | assumption | exact Ext.refl _ | refine Ext.alloc ?_ _ | refine Ext.drew ?_ | refine Ext.drewN ?_ _ | refine Ext.setCell ?_ (by first | (simp; done) | omega | (simp; omega)) _ | refine Ext.trans (by assumption) ?_))) hx3
      have z3 := k3.size
      have H3 := Lib.hid (fun W (k : Ext w3 W) => I3.ext k)
      clear I3 near3
      replace rf := k3.free r0 rf
      replace r0 := k3.cell r0
      replace r1 := k3.cell r1
      replace rl := lt_of_cell r0
      obtain ⟨b20, b21, b2f⟩ := hx3.box2 (B := w2.heap.size) (a := .int .i64 (cap)) (b := .slice A2 n2 c2) (by simp) (by simp) (by simp)
      have b2l := lt_of_cell b20
      go_wp2_with fail
      refine (ringPop_any _ _ _ _ _ _ (HA.out _ ((by repeat (first | assumption | exact Ext.refl _ | refine Ext.alloc ?_ _ | refine Ext.drew ?_ | refine Ext.drewN ?_ _ | refine Ext.setCell ?_ (by first | (simp; done) | omega | (simp; omega)) _ | refine Ext.trans (by assumption) ?_))))).mono ?_
      rintro e w4 ⟨v4, rfl, ⟨A4, n4, c4, rfl, I4⟩, hx4⟩
      have k4 : Ext w3 w4 := Ext.trans ((by repeat (first | assumption | exact Ext.refl _ | refine Ext.alloc ?_ _ | refine Ext.drew ?_ | refine Ext.drewN ?_ _ | refine Ext.setCell ?_ (by first | (simp; done) | omega | (simp; omega)) _ | refine Ext.trans (by assumption) ?_))) hx4
      have z4 := k4.size
      have H4 := Lib.hid (fun W (k : Ext w4 W) => I4.ext k)
      clear I4
      replace rf := k4.free r0 rf
      replace r0 := k4.cell r0
      replace r1 := k4.cell r1
      replace rl := lt_of_cell r0
      replace b2f := k4.free b20 b2f
      replace b20 := k4.cell b20
      replace b21 := k4.cell b21
      replace b2l := lt_of_cell b20
      obtain ⟨b30, b31, b3f⟩ := hx4.box2 (B := w3.heap.size) (a := .int .i64 (cap)) (b := .slice A3 n3 c3) (by simp) (by simp) (by simp)
      have b3l := lt_of_cell b30
      go_wp2_with fail
      refine (refPop_any _ _ _ _ _ _ (HA.out _ ((by repeat (first | assumption | exact Ext.refl _ | refine Ext.alloc ?_ _ | refine Ext.drew ?_ | refine Ext.drewN ?_ _ | refine Ext.setCell ?_ (by first | (simp; done) | omega | (simp; omega)) _ | refine Ext.trans (by assumption) ?_))))).mono ?_
      rintro e w5 ⟨v5, rfl, ⟨A5, n5, c5, rfl, I5, near5⟩, hx5⟩
      have k5 : Ext w4 w5 := Ext.trans ((by repeat (first | assumption | exact Ext.refl _ | refine Ext.alloc ?_ _ | refine Ext.drew ?_ | refine Ext.drewN ?_ _ | refine Ext.setCell ?_ (by first | (simp; done) | omega | (simp; omega)) _ | refine Ext.trans (by assumption) ?_))) hx5
      have z5 := k5.size
      have H5 := Lib.hid (fun W (k : Ext w5 W) => I5.ext k)
      clear I5 near5
      replace rf := k5.free r0 rf
      replace r0 := k5.cell r0
      replace r1 := k5.cell r1
      replace rl := lt_of_cell r0
      replace b2f := k5.free b20 b2f
      replace b20 := k5.cell b20
      replace b21 := k5.cell b21
      replace b2l := lt_of_cell b20
      replace b3f := k5.free b30 b3f
      replace b30 := k5.cell b30
      replace b31 := k5.cell b31
      replace b3l := lt_of_cell b30
      obtain ⟨b40, b41, b4f⟩ := hx5.box2 (B := w4.heap.size) (a := .int .i64 (cap)) (b := .slice A4 n4 c4) (by simp) (by simp) (by simp)
      have b4l := lt_of_cell b40
      go_wp2_with fail
      refine (ringRun_any _ _ _ _ _ _ _ _ _ _ (HA.out _ ((by repeat (first | assumption | exact Ext.refl _ | refine Ext.alloc ?_ _ | refine Ext.drew ?_ | refine Ext.drewN ?_ _ | refine Ext.setCell ?_ (by first | (simp; done) | omega | (simp; omega)) _ | refine Ext.trans (by assumption) ?_)))) (HB.out _ ((by repeat (first | assumption | exact Ext.refl _ | refine Ext.alloc ?_ _ | refine Ext.drew ?_ | refine Ext.drewN ?_ _ | refine Ext.setCell ?_ (by first | (simp; done) | omega | (simp; omega)) _ | refine Ext.trans (by assumption) ?_))))).mono ?_
      rintro e w6 ⟨v6, u6, rfl, ⟨A6, n6, c6, rfl, I6⟩, ⟨B6, m6, d6, rfl, J6⟩, hx6⟩
      have k6 : Ext w5 w6 := Ext.trans ((by repeat (first | assumption | exact Ext.refl _ | refine Ext.alloc ?_ _ | refine Ext.drew ?_ | refine Ext.drewN ?_ _ | refine Ext.setCell ?_ (by first | (simp; done) | omega | (simp; omega)) _ | refine Ext.trans (by assumption) ?_))) hx6
      have z6 := k6.size
      have H6 := Lib.hid (fun W (k : Ext w6 W) => I6.ext k)
      have G6 := Lib.hid (fun W (k : Ext w6 W) => J6.ext k)
      clear I6 J6
      replace rf := k6.free r0 rf
      replace r0 := k6.cell r0
      replace r1 := k6.cell r1
      replace rl := lt_of_cell r0
      replace b2f := k6.free b20 b2f
      replace b20 := k6.cell b20
      replace b21 := k6.cell b21
      replace b2l := lt_of_cell b20
      replace b3f := k6.free b30 b3f
      replace b30 := k6.cell b30
      replace b31 := k6.cell b31
      replace b3l := lt_of_cell b30
      replace b4f := k6.free b40 b4f
      replace b40 := k6.cell b40
      replace b41 := k6.cell b41
      replace b4l := lt_of_cell b40
      obtain ⟨b50, b51, b5f⟩ := hx6.box2 (B := w5.heap.size) (a := .int .i64 (cap)) (b := .slice A5 n5 c5) (by simp) (by simp) (by simp)
      have b5l := lt_of_cell b50
      go_wp2_with fail
      refine (refRun_any _ _ _ _ _ _ _ _ _ _ (HA.out _ ((by repeat (first | assumption | exact Ext.refl _ | refine Ext.alloc ?_ _ | refine Ext.drew ?_ | refine Ext.drewN ?_ _ | refine Ext.setCell ?_ (by first | (simp; done) | omega | (simp; omega)) _ | refine Ext.trans (by assumption) ?_)))) (HB.out _ ((by repeat (first | assumption | exact Ext.refl _ | refine Ext.alloc ?_ _ | refine Ext.drew ?_ | refine Ext.drewN ?_ _ | refine Ext.setCell ?_ (by first | (simp; done) | omega | (simp; omega)) _ | refine Ext.trans (by assumption) ?_))))).mono ?_
      rintro e w7 ⟨v7, u7, rfl, ⟨A7, n7, c7, rfl, I7⟩, ⟨B7, m7, d7, rfl, J7⟩, hx7⟩
      have k7 : Ext w6 w7 := Ext.trans ((by repeat (first | assumption | exact Ext.refl _ | refine Ext.alloc ?_ _ | refine Ext.drew ?_ | refine Ext.drewN ?_ _ | refine Ext.setCell ?_ (by first | (simp; done) | omega | (simp; omega)) _ | refine Ext.trans (by assumption) ?_))) hx7
      have z7 := k7.size
      have H7 := Lib.hid (fun W (k : Ext w7 W) => I7.ext k)
      have G7 := Lib.hid (fun W (k : Ext w7 W) => J7.ext k)
      clear I7 J7
      replace rf := k7.free r0 rf
      replace r0 := k7.cell r0
      replace r1 := k7.cell r1
      replace rl := lt_of_cell r0
      replace b2f := k7.free b20 b2f
      replace b20 := k7.cell b20
      replace b21 := k7.cell b21
      replace b2l := lt_of_cell b20
      replace b3f := k7.free b30 b3f
      replace b30 := k7.cell b30
      replace b31 := k7.cell b31
      replace b3l := lt_of_cell b30
      replace b4f := k7.free b40 b4f
      replace b40 := k7.cell b40
      replace b41 := k7.cell b41
      replace b4l := lt_of_cell b40
      replace b5f := k7.free b50 b5f
      replace b50 := k7.cell b50
      replace b51 := k7.cell b51
      replace b5l := lt_of_cell b50
      obtain ⟨b60, b61, b6f⟩ := hx7.box2 (B := w6.heap.size) (a := .int .i64 (cap)) (b := .slice A6 n6 c6) (by simp) (by simp) (by simp)
      have b6l := lt_of_cell b60
      go_wp2_with fail
      refine (new_any _ _).mono ?_
      rintro e w8 ⟨v8, rfl, ⟨A8, n8, c8, rfl, I8⟩, hx8⟩
      have k8 : Ext w7 w8 := Ext.trans ((by repeat (first | assumption | exact Ext.refl _ | refine Ext.alloc ?_ _ | refine Ext.drew ?_ | refine Ext.drewN ?_ _ | refine Ext.setCell ?_ (by first | (simp; done) | omega | (simp; omega)) _ | refine Ext.trans (by assumption) ?_))) hx8
      have z8 := k8.size
      have H8 := Lib.hid (fun W (k : Ext w8 W) => I8.ext k)
      clear I8
      replace rf := k8.free r0 rf
      replace r0 := k8.cell r0
      replace r1 := k8.cell r1
      replace rl := lt_of_cell r0
      replace b2f := k8.free b20 b2f
      replace b20 := k8.cell b20
      replace b21 := k8.cell b21
      replace b2l := lt_of_cell b20
      replace b3f := k8.free b30 b3f
      replace b30 := k8.cell b30
      replace b31 := k8.cell b31
      replace b3l := lt_of_cell b30
      replace b4f := k8.free b40 b4f
      replace b40 := k8.cell b40
      replace b41 := k8.cell b41
      replace b4l := lt_of_cell b40
      replace b5f := k8.free b50 b5f
      replace b50 := k8.cell b50
      replace b51 := k8.cell b51
      replace b5l := lt_of_cell b50
      replace b6f := k8.free b60 b6f
      replace b60 := k8.cell b60
      replace b61 := k8.cell b61
      replace b6l := lt_of_cell b60
      obtain ⟨b70, b71, b7f⟩ := hx8.box2 (B := w7.heap.size) (a := .int .i64 (cap)) (b := .slice A7 n7 c7) (by simp) (by simp) (by simp)
      have b7l := lt_of_cell b70
      go_wp2_with fail
      refine (refNew_any _ _).mono ?_
      rintro e w9 ⟨v9, rfl, ⟨A9, n9, c9, rfl, I9⟩, hx9⟩
      have k9 : Ext w8 w9 := Ext.trans ((by repeat (first | assumption | exact Ext.refl _ | refine Ext.alloc ?_ _ | refine Ext.drew ?_ | refine Ext.drewN ?_ _ | refine Ext.setCell ?_ (by first | (simp; done) | omega | (simp; omega)) _ | refine Ext.trans (by assumption) ?_))) hx9
      have z9 := k9.size
      have H9 := Lib.hid (fun W (k : Ext w9 W) => I9.ext k)
      clear I9
      replace rf := k9.free r0 rf
      replace r0 := k9.cell r0
      replace r1 := k9.cell r1
      replace rl := lt_of_cell r0
      replace b2f := k9.free b20 b2f
      replace b20 := k9.cell b20
      replace b21 := k9.cell b21
      replace b2l := lt_of_cell b20
      replace b3f := k9.free b30 b3f
      replace b30 := k9.cell b30
      replace b31 := k9.cell b31
      replace b3l := lt_of_cell b30
      replace b4f := k9.free b40 b4f
      replace b40 := k9.cell b40
      replace b41 := k9.cell b41
      replace b4l := lt_of_cell b40
      replace b5f := k9.free b50 b5f
      replace b50 := k9.cell b50
      replace b51 := k9.cell b51
      replace b5l := lt_of_cell b50
      replace b6f := k9.free b60 b6f
      replace b60 := k9.cell b60
      replace b61 := k9.cell b61
      replace b6l := lt_of_cell b60
      replace b7f := k9.free b70 b7f
      replace b70 := k9.cell b70
      replace b71 := k9.cell b71
      replace b7l := lt_of_cell b70
      obtain ⟨b80, b81, b8f⟩ := hx9.box2 (B := w8.heap.size) (a := .int .i64 (newR x)) (b := .slice A8 n8 c8) (by simp) (by simp) (by simp)
      have b8l := lt_of_cell b80
      go_wp2_with fail
      refine (same_self _ _ _ _ _ _ _ _ _ (H2.out _ ((by repeat (first | assumption | exact Ext.refl _ | refine Ext.alloc ?_ _ | refine Ext.drew ?_ | refine Ext.drewN ?_ _ | refine Ext.setCell ?_ (by first | (simp; done) | omega | (simp; omega)) _ | refine Ext.trans (by assumption) ?_)))) (H3.out _ ((by repeat (first | assumption | exact Ext.refl _ | refine Ext.alloc ?_ _ | refine Ext.drew ?_ | refine Ext.drewN ?_ _ | refine Ext.setCell ?_ (by first | (simp; done) | omega | (simp; omega)) _ | refine Ext.trans (by assumption) ?_))))).mono ?_
      rintro e w10 ⟨rfl, hx10⟩
      have k10 : Ext w9 w10 := Ext.trans ((by repeat (first | assumption | exact Ext.refl _ | refine Ext.alloc ?_ _ | refine Ext.drew ?_ | refine Ext.drewN ?_ _ | refine Ext.setCell ?_ (by first | (simp; done) | omega | (simp; omega)) _ | refine Ext.trans (by assumption) ?_))) hx10
      have z10 := k10.size
      replace rf := k10.free r0 rf
      replace r0 := k10.cell r0
      replace r1 := k10.cell r1
      replace rl := lt_of_cell r0
      replace b4f := k10.free b40 b4f
      replace b40 := k10.cell b40
      replace b41 := k10.cell b41
      replace b4l := lt_of_cell b40
      replace b5f := k10.free b50 b5f
      replace b50 := k10.cell b50
      replace b51 := k10.cell b51
      replace b5l := lt_of_cell b50
      replace b6f := k10.free b60 b6f
      replace b60 := k10.cell b60
      replace b61 := k10.cell b61
      replace b6l := lt_of_cell b60
      replace b7f := k10.free b70 b7f
      replace b70 := k10.cell b70
      replace b71 := k10.cell b71
      replace b7l := lt_of_cell b70
      replace b8f := k10.free b80 b8f
      replace b80 := k10.cell b80
      replace b81 := k10.cell b81
      replace b8l := lt_of_cell b80
      clear b20 b21 b2f b2l
      clear b30 b31 b3f b3l
      obtain ⟨b90, b91, b9f⟩ := hx10.box2 (B := w9.heap.size) (a := .int .i64 (newR x)) (b := .slice A9 n9 c9) (by simp) (by simp) (by simp)
      have b9l := lt_of_cell b90
      go_wp2_with fail
      refine (same_self _ _ _ _ _ _ _ _ _ (H4.out _ ((by repeat (first | assumption | exact Ext.refl _ | refine Ext.alloc ?_ _ | refine Ext.drew ?_ | refine Ext.drewN ?_ _ | refine Ext.setCell ?_ (by first | (simp; done) | omega | (simp; omega)) _ | refine Ext.trans (by assumption) ?_)))) (H5.out _ ((by repeat (first | assumption | exact Ext.refl _ | refine Ext.alloc ?_ _ | refine Ext.drew ?_ | refine Ext.drewN ?_ _ | refine Ext.setCell ?_ (by first | (simp; done) | omega | (simp; omega)) _ | refine Ext.trans (by assumption) ?_))))).mono ?_
      rintro e w11 ⟨rfl, hx11⟩
      have k11 : Ext w10 w11 := Ext.trans ((by repeat (first | assumption | exact Ext.refl _ | refine Ext.alloc ?_ _ | refine Ext.drew ?_ | refine Ext.drewN ?_ _ | refine Ext.setCell ?_ (by first | (simp; done) | omega | (simp; omega)) _ | refine Ext.trans (by assumption) ?_))) hx11
      have z11 := k11.size
      replace rf := k11.free r0 rf
      replace r0 := k11.cell r0
      replace r1 := k11.cell r1
      replace rl := lt_of_cell r0
      replace b6f := k11.free b60 b6f
      replace b60 := k11.cell b60
      replace b61 := k11.cell b61
      replace b6l := lt_of_cell b60
      replace b7f := k11.free b70 b7f
      replace b70 := k11.cell b70
      replace b71 := k11.cell b71
      replace b7l := lt_of_cell b70
      replace b8f := k11.free b80 b8f
      replace b80 := k11.cell b80
      replace b81 := k11.cell b81
      replace b8l := lt_of_cell b80
      replace b9f := k11.free b90 b9f
      replace b90 := k11.cell b90
      replace b91 := k11.cell b91
      replace b9l := lt_of_cell b90
      clear b40 b41 b4f b4l
      clear b50 b51 b5f b5l
      go_wp2_with fail
      refine (same_self _ _ _ _ _ _ _ _ _ (H6.out _ ((by repeat (first | assumption | exact Ext.refl _ | refine Ext.alloc ?_ _ | refine Ext.drew ?_ | refine Ext.drewN ?_ _ | refine Ext.setCell ?_ (by first | (simp; done) | omega | (simp; omega)) _ | refine Ext.trans (by assumption) ?_)))) (H7.out _ ((by repeat (first | assumption | exact Ext.refl _ | refine Ext.alloc ?_ _ | refine Ext.drew ?_ | refine Ext.drewN ?_ _ | refine Ext.setCell ?_ (by first | (simp; done) | omega | (simp; omega)) _ | refine Ext.trans (by assumption) ?_))))).mono ?_
      rintro e w12 ⟨rfl, hx12⟩
      have k12 : Ext w11 w12 := Ext.trans ((by repeat (first | assumption | exact Ext.refl _ | refine Ext.alloc ?_ _ | refine Ext.drew ?_ | refine Ext.drewN ?_ _ | refine Ext.setCell ?_ (by first | (simp; done) | omega | (simp; omega)) _ | refine Ext.trans (by assumption) ?_))) hx12
      have z12 := k12.size
      replace rf := k12.free r0 rf
      replace r0 := k12.cell r0
      replace r1 := k12.cell r1
      replace rl := lt_of_cell r0
      replace b8f := k12.free b80 b8f
      replace b80 := k12.cell b80
      replace b81 := k12.cell b81
      replace b8l := lt_of_cell b80
      replace b9f := k12.free b90 b9f
      replace b90 := k12.cell b90
      replace b91 := k12.cell b91
      replace b9l := lt_of_cell b90
      clear b60 b61 b6f b6l
      clear b70 b71 b7f b7l
      go_wp2_with fail
      refine (ints_self _ _ _ _ _ _ _ _ (G6.out _ ((by repeat (first | assumption | exact Ext.refl _ | refine Ext.alloc ?_ _ | refine Ext.drew ?_ | refine Ext.drewN ?_ _ | refine Ext.setCell ?_ (by first | (simp; done) | omega | (simp; omega)) _ | refine Ext.trans (by assumption) ?_)))) (G7.out _ ((by repeat (first | assumption | exact Ext.refl _ | refine Ext.alloc ?_ _ | refine Ext.drew ?_ | refine Ext.drewN ?_ _ | refine Ext.setCell ?_ (by first | (simp; done) | omega | (simp; omega)) _ | refine Ext.trans (by assumption) ?_))))).mono ?_
      rintro e w13 ⟨rfl, hx13⟩
      have k13 : Ext w12 w13 := Ext.trans ((by repeat (first | assumption | exact Ext.refl _ | refine Ext.alloc ?_ _ | refine Ext.drew ?_ | refine Ext.drewN ?_ _ | refine Ext.setCell ?_ (by first | (simp; done) | omega | (simp; omega)) _ | refine Ext.trans (by assumption) ?_))) hx13
      have z13 := k13.size
      replace rf := k13.free r0 rf
      replace r0 := k13.cell r0
      replace r1 := k13.cell r1
      replace rl := lt_of_cell r0
      replace b8f := k13.free b80 b8f
      replace b80 := k13.cell b80
      replace b81 := k13.cell b81
      replace b8l := lt_of_cell b80
      replace b9f := k13.free b90 b9f
      replace b90 := k13.cell b90
      replace b91 := k13.cell b91
      replace b9l := lt_of_cell b90
      go_wp2_with fail
      refine (same_self _ _ _ _ _ _ _ _ _ (H8.out _ ((by repeat (first | assumption | exact Ext.refl _ | refine Ext.alloc ?_ _ | refine Ext.drew ?_ | refine Ext.drewN ?_ _ | refine Ext.setCell ?_ (by first | (simp; done) | omega | (simp; omega)) _ | refine Ext.trans (by assumption) ?_)))) (H9.out _ ((by repeat (first | assumption | exact Ext.refl _ | refine Ext.alloc ?_ _ | refine Ext.drew ?_ | refine Ext.drewN ?_ _ | refine Ext.setCell ?_ (by first | (simp; done) | omega | (simp; omega)) _ | refine Ext.trans (by assumption) ?_))))).mono ?_
      rintro e w14 ⟨rfl, hx14⟩
      have k14 : Ext w13 w14 := Ext.trans ((by repeat (first | assumption | exact Ext.refl _ | refine Ext.alloc ?_ _ | refine Ext.drew ?_ | refine Ext.drewN ?_ _ | refine Ext.setCell ?_ (by first | (simp; done) | omega | (simp; omega)) _ | refine Ext.trans (by assumption) ?_))) hx14
      have z14 := k14.size
      replace rf := k14.free r0 rf
      replace r0 := k14.cell r0
      replace r1 := k14.cell r1
      replace rl := lt_of_cell r0
      clear b80 b81 b8f b8l
      clear b90 b91 b9f b9l
      go_wp2_with fail
      refine (refMay_any _ _ _ _ _).mono ?_
      rintro e w15 ⟨rfl, hx15⟩
      have k15 : Ext w14 w15 := Ext.trans ((by repeat (first | assumption | exact Ext.refl _ | refine Ext.alloc ?_ _ | refine Ext.drew ?_ | refine Ext.drewN ?_ _ | refine Ext.setCell ?_ (by first | (simp; done) | omega | (simp; omega)) _ | refine Ext.trans (by assumption) ?_))) hx15
      have z15 := k15.size
      replace rf := k15.free r0 rf
      replace r0 := k15.cell r0
      replace r1 := k15.cell r1
      replace rl := lt_of_cell r0
      go_wp2_with fail
      refine (may_any _ _ _ _ _).mono ?_
      rintro e w16 ⟨rfl, hx16⟩
      have k16 : Ext w15 w16 := Ext.trans ((by repeat (first | assumption | exact Ext.refl _ | refine Ext.alloc ?_ _ | refine Ext.drew ?_ | refine Ext.drewN ?_ _ | refine Ext.setCell ?_ (by first | (simp; done) | omega | (simp; omega)) _ | refine Ext.trans (by assumption) ?_))) hx16
      have z16 := k16.size
      clear r0 r1 rf rl
      go_wp2
      go_ret
      exact ⟨rfl, (by repeat (first | assumption | exact Ext.refl _ | refine Ext.alloc ?_ _ | refine Ext.drew ?_ | refine Ext.drewN ?_ _ | refine Ext.setCell ?_ (by first | (simp; done) | omega | (simp; omega)) _ | refine Ext.trans (by assumption) ?_))⟩
set_option maxRecDepth 100000 in
theorem RingTells_lifted (os : Os) (started : os.Started) (H : Type) (enc : TypeId × Value → H) :
    ReturnsInHanded {} Try.checked os 6 .any (Rows.ringTellsSpec.pre6 enc Try.prog Try.f6 Rows.ringTellsRow.domain false) (Rows.ringTellsSpec.post enc Try.prog Try.f6 false true false false) := by
  refine returnsInHanded_of_change_sized (C := Try.checked) own started (by kernel_rfl) Try.func6
    (ChangeSpec.witness6 (enc := enc) (C := Try.checked) false ⟨#[], #[.agg #[.int .i64 0, .slice none 0 0], .int .i64 0, .slice none 0 0], []⟩ 8 (by kernel_rfl) (by kernel_rfl) (by kernel_rfl) (by kernel_rfl)) ?_
  intro W base args ds gs before hval0 hW _hcnd hsz0 _
  have hval : ∀ (j : Nat) t v, Try.f6.params[j]? = some t → args[j]? = some v → Value.okWide Try.prog W .any base t v := hval0
  have hsz : (DataW.weightsEach Try.prog (Try.f6.params.toList ++ Rows.ringTellsSpec.plain.varTypes Try.prog) (ds ++ gs)).all (· ≤ reachBytes) = true := hsz0
  have hW' := hW
  obtain ⟨p, q, hA0, hV, rfl, hfz, hnd⟩ := hW
  have hA : DataW.TrodAll enc Try.prog W 0 (fun _ => true) true Try.f6.params.toList args.toList ds p := hA0
  rw [Try.params6] at hA hval hsz
  obtain ⟨v0, vs0, d0, ds0, p0, q0, hargs, rfl, rfl, h0, r0⟩ := trodAll_cons hA
  obtain ⟨v1, vs1, d1, ds1, p1, q1, rfl, rfl, rfl, h1, r1⟩ := trodAll_cons r0
  obtain ⟨v2, vs2, d2, ds2, p2, q2, rfl, rfl, rfl, h2, r2⟩ := trodAll_cons r1
  obtain ⟨rfl, rfl, rfl⟩ := trodAll_nil r2
  obtain rfl : args = #[v0, v1, v2] := by cases args; simp_all
  obtain ⟨rfl, rfl⟩ := trodVars_none hV
  have h0k := h0
  have h1k := h1
  have h2k := h2
  have hlt0 : ∀ x ∈ p0, x.block < W.heap.size := fun x hx => by have := hW'.lt x (by simp [hx]); simpa using this
  have hlt1 : ∀ x ∈ p1, x.block < W.heap.size := fun x hx => by have := hW'.lt x (by simp [hx]); simpa using this
  have hlt2 : ∀ x ∈ p2, x.block < W.heap.size := fun x hx => by have := hW'.lt x (by simp [hx]); simpa using this
  obtain ⟨rk, r, rA, rn, rc, hkr, rfl, hr⟩ := open_Ring Try.underlying24 (by kernel_rfl) (by kernel_rfl) Try.underlying3 Try.underlying22 Try.underlying3 (by kernel_rfl) (by kernel_rfl) (hval 0 24 v0 rfl rfl) h0 hsz (j := 0) rfl rfl
  obtain ⟨x, rfl, hx1, hx2⟩ := open_I64 Try.underlying3 (hval 1 3 v1 rfl rfl) h1
  obtain ⟨l, lA, ln, lc, rfl, hl⟩ := open_Ints Try.underlying22 Try.underlying3 (by kernel_rfl) (by kernel_rfl) (hval 2 22 v2 rfl rfl) h2 hsz (j := 2) rfl rfl
  clear hA0 hval0
  simp only [List.append_nil] at hW'
  refine (RingTells_walk rA rn rc rk r hkr hr x hx1 hx2 lA ln lc l hl (w := W)).mono fun e W' ⟨he, hg⟩ => ?_
  subst he
  exact ⟨_, rfl, post_law (pa := p0 ++ (p1 ++ (p2 ++ []))) (pv := []) hW' (fun _ _ _ => (trodAll_cons_mk (shut_bool Try.underlying4 _) trodAll_mk0))
    (trodAll_cons_mk (Below.trod laidOut (by kernel_rfl) (of_decide_eq_true (by kernel_rfl)) h0k hg.out hlt0) (trodAll_cons_mk (Below.trod laidOut (by kernel_rfl) (of_decide_eq_true (by kernel_rfl)) h1k hg.out hlt1) (trodAll_cons_mk (Below.trod laidOut (by kernel_rfl) (of_decide_eq_true (by kernel_rfl)) h2k hg.out hlt2) trodAll_mk0))) rfl (by simp) hg⟩
theorem RingTells_holds : Rows.RingTellsSaid :=
  OpenClaim.holds_of_wide 6 Try.f6 rfl rfl rfl rfl rfl rfl rfl ⟨rfl, rfl, rfl, rfl, rfl⟩ rfl rfl rfl rfl rfl (by kernel_rfl) Try.func6 (by kernel_rfl)
    (of_decide_eq_true (by kernel_rfl)) (by unfold Func.isWrapper; first | (rw [if_pos (by decide +kernel)]; kernel_rfl) | (rw [if_neg (by decide +kernel)]; exact ⟨rfl, rfl⟩))
    (fun os started H enc _ => RingTells_lifted os started H enc)
#print axioms RingTells_holds
end Go.Proofs.Ytpggilainapoaaa
