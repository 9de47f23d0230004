/- RingRoom: there never is more than there is room for; there is room just if there is less; behind a push one more can be taken; for every input. -/
import Derived.Test.YtpggilainapoaaaRingLaw
namespace Go.Proofs.Ytpggilainapoaaa
open Go.RowKit Go.WideShapes Go.ChangeShapes
set_option linter.unusedVariables false
set_option linter.unusedSimpArgs false

theorem may_is {b : Bool} (A : Option Addr) (n c : Nat) (cap : Int) (w : World) (h : mayB cap n = b) : Calls Try.prog 10 #[.agg #[.int .i64 cap, .slice A n c]] w fun e w' => e = .returned (.bool b) ∧ Ext w w' := by
  have k := may_any A n c cap w
  rw [h] at k
  exact k
theorem same_self (cap : Int) (L : List Int) (A : Option Addr) (n c : Nat) (B : Option Addr) (n' d : Nat) (w : World) (h : Ints w .i64 A n c L) (g : Ints w .i64 B n' d L) :
    Calls Try.prog 13 #[.agg #[.int .i64 cap, .slice A n c], .agg #[.int .i64 cap, .slice B n' d]] w fun e w' => e = .returned (.bool true) ∧ Ext w w' := by
  have k := ringSame_any A n c B n' d cap cap L L w h g
  rw [show eqR cap cap L L = true by simp [eqR, eqI]] at k
  exact k
theorem push_is {b : Bool} {L : List Int} (A : Option Addr) (n c : Nat) (cap : Int) (l : List Int) (x : Int) (hx : (Lit.int .i64 x).wf = true) (w : World) (h : Ints w .i64 A n c l) (hb : pushRB cap l = b) (hL : pushRL cap l x = L) :
    Calls Try.prog 15 #[.agg #[.int .i64 cap, .slice A n c], .int .i64 x] w fun e w' => ∃ v, e = .returned (.tuple #[v, .bool b]) ∧ IsRingV w' v cap L ∧ Ext w w' := by
  have k := ringPush_any A n c cap l x hx w h
  rw [hb, hL] at k
  exact k
theorem pop_is {b : Bool} {y : Int} {L : List Int} (A : Option Addr) (n c : Nat) (cap : Int) (l : List Int) (w : World) (h : Ints w .i64 A n c l) (hb : popRB cap l = b) (hy : popRV cap l = y) (hL : popRL cap l = L) :
    Calls Try.prog 17 #[.agg #[.int .i64 cap, .slice A n c]] w fun e w' => ∃ v, e = .returned (.tuple #[v, .int .i64 y, .bool b]) ∧ IsRingV w' v cap L ∧ Ext w w' := by
  have k := ringPop_any A n c cap l w h
  rw [hb, hy, hL] at k
  exact k
set_option maxHeartbeats 8000000 in
theorem RingRoom_walk {w : World} (A : Option Addr) (n c : Nat) (cap : Int) (l : List Int) (hcap : (Lit.int .i64 cap).wf = true) (h : Ints w .i64 A n c l) (x : Int) (hx1 : -9223372036854775808 ≤ x) (hx2 : x ≤ 9223372036854775807) :
    Calls Try.prog 7 #[.agg #[.int .i64 cap, .slice A n c], .int .i64 x] w fun e w' => e = .returned (.bool true) ∧ Ext w w' := by
  have wx : (Lit.int .i64 x).wf = true := wf_i64 hx1 hx2
  have hA := fun W (k : Ext w W) => h.ext k
  have HA := Lib.hid hA
  have hl := h.len
  have hv := h.view
  clear hA h hcap
  cases hB : mayB cap n with
  | false =>
    have M := Lib.hid hB
    go_enter Try.func7, Try.ntmps7
    go_wp2_with fail
    refine (awake_any _).mono ?_
    rintro e w1 ⟨rfl, hx1⟩
    have k1 : Ext w w1 := Ext.trans ((by repeat (first | assumption | exact Ext.refl _ | refine Ext.alloc ?_ _ | refine Ext.drew ?_ | refine Ext.drewN ?_ _ | refine Ext.setCell ?_ (by first | (simp; done) | omega | (simp; omega)) _ | refine Ext.trans (by assumption) ?_))) hx1
    have z1 := k1.size
    obtain ⟨r0, r1, rf⟩ := hx1.box2 (B := w.heap.size) (a := .int .i64 cap) (b := .slice A n c) (by simp) (by simp) (by simp)
    have rl := lt_of_cell r0
    go_wp2_with fail
    refine (may_is (b := false) _ _ _ _ _ M.out).mono ?_
    rintro e w2 ⟨rfl, hx2⟩
    have k2 : Ext w1 w2 := Ext.trans ((by repeat (first | assumption | exact Ext.refl _ | refine Ext.alloc ?_ _ | refine Ext.drew ?_ | refine Ext.drewN ?_ _ | refine Ext.setCell ?_ (by first | (simp; done) | omega | (simp; omega)) _ | refine Ext.trans (by assumption) ?_))) hx2
    have z2 := k2.size
    go_wp2
    go_ret
    exact ⟨rfl, (by repeat (first | assumption | exact Ext.refl _ | refine Ext.alloc ?_ _ | refine Ext.drew ?_ | refine Ext.drewN ?_ _ | refine Ext.setCell ?_ (by first | (simp; done) | omega | (simp; omega)) _ | refine Ext.trans (by assumption) ?_))⟩
  | true =>
    have hc : 0 ≤ cap ∧ cap ≤ 8 ∧ (n : Int) ≤ cap := by unfold mayB at hB; exact of_decide_eq_true hB
    by_cases hfull : (n : Int) = cap
    · have hlt : ¬ (n : Int) < cap := by omega
      by_cases h0 : n = 0
      · subst h0
        obtain rfl := List.eq_nil_of_length_eq_zero hl
        have M := Lib.hid (show mayB cap 0 = true ∧ pushRB cap [] = false ∧ pushRL cap [] x = [] ∧ ([] : List Int).length = 0 ∧ mayB cap 0 = true ∧ popRB cap [] = false ∧ popRV cap [] = 0 ∧ popRL cap [] = [] ∧ ([] : List Int).length = 0 ∧ mayB cap 0 = true by
          simp [hB, pushRB, pushRL, pushB, pushL, popRB, popRV, popRL, popB, popV]; omega)
        have hz : ¬ (0 : Int) < cap := by omega
        clear hB hfull hlt hv
        go_enter Try.func7, Try.ntmps7
        go_wp2_with fail
        refine (awake_any _).mono ?_
        rintro e w1 ⟨rfl, hx1⟩
        have k1 : Ext w w1 := Ext.trans ((by repeat (first | assumption | exact Ext.refl _ | refine Ext.alloc ?_ _ | refine Ext.drew ?_ | refine Ext.drewN ?_ _ | refine Ext.setCell ?_ (by first | (simp; done) | omega | (simp; omega)) _ | refine Ext.trans (by assumption) ?_))) hx1
        have z1 := k1.size
        obtain ⟨r0, r1, rf⟩ := hx1.box2 (B := w.heap.size) (a := .int .i64 cap) (b := .slice A (0) c) (by simp) (by simp) (by simp)
        have rl := lt_of_cell r0
        go_wp2_with fail
        refine (may_is (b := true) _ _ _ _ _ M.out.1).mono ?_
        rintro e w2 ⟨rfl, hx2⟩
        have k2 : Ext w1 w2 := Ext.trans ((by repeat (first | assumption | exact Ext.refl _ | refine Ext.alloc ?_ _ | refine Ext.drew ?_ | refine Ext.drewN ?_ _ | refine Ext.setCell ?_ (by first | (simp; done) | omega | (simp; omega)) _ | refine Ext.trans (by assumption) ?_))) hx2
        have z2 := k2.size
        replace rf := k2.free r0 rf
        replace r0 := k2.cell r0
        replace r1 := k2.cell r1
        replace rl := lt_of_cell r0
        go_wp2_with fail
        refine (push_is (b := false) (L := []) _ _ _ _ _ x wx _ (HA.out _ ((by repeat (first | assumption | exact Ext.refl _ | refine Ext.alloc ?_ _ | refine Ext.drew ?_ | refine Ext.drewN ?_ _ | refine Ext.setCell ?_ (by first | (simp; done) | omega | (simp; omega)) _ | refine Ext.trans (by assumption) ?_)))) M.out.2.1 M.out.2.2.1).mono ?_
        rintro e w3 ⟨v3, rfl, ⟨A3, n3, c3, rfl, I3⟩, hx3⟩
        have k3 : Ext w2 w3 := Ext.trans ((by repeat (first | assumption | exact Ext.refl _ | refine Ext.alloc ?_ _ | refine Ext.drew ?_ | refine Ext.drewN ?_ _ | refine Ext.setCell ?_ (by first | (simp; done) | omega | (simp; omega)) _ | refine Ext.trans (by assumption) ?_))) hx3
        have z3 := k3.size
        have H3 := Lib.hid (fun W (k : Ext w3 W) => I3.ext k)
        clear I3
        replace rf := k3.free r0 rf
        replace r0 := k3.cell r0
        replace r1 := k3.cell r1
        replace rl := lt_of_cell r0
        have hn3 : 0 = n3 := by rw [← (H3.out _ (Ext.refl _)).len]; exact M.out.2.2.2.1.symm
        subst hn3
        go_wp2_with fail
        refine (may_is (b := true) _ _ _ _ _ M.out.2.2.2.2.1).mono ?_
        rintro e w4 ⟨rfl, hx4⟩
        have k4 : Ext w3 w4 := Ext.trans ((by repeat (first | assumption | exact Ext.refl _ | refine Ext.alloc ?_ _ | refine Ext.drew ?_ | refine Ext.drewN ?_ _ | refine Ext.setCell ?_ (by first | (simp; done) | omega | (simp; omega)) _ | refine Ext.trans (by assumption) ?_))) hx4
        have z4 := k4.size
        replace rf := k4.free r0 rf
        replace r0 := k4.cell r0
        replace r1 := k4.cell r1
        replace rl := lt_of_cell r0
        obtain ⟨s0, s1, sf⟩ := hx4.box2 (B := w3.heap.size) (a := .int .i64 cap) (b := .slice A3 (0) c3) (by simp) (by simp) (by simp)
        have sl := lt_of_cell s0
        go_wp2_with fail
        refine (pop_is (b := false) (y := 0) (L := []) _ _ _ _ _ _ (H3.out _ ((by repeat (first | assumption | exact Ext.refl _ | refine Ext.alloc ?_ _ | refine Ext.drew ?_ | refine Ext.drewN ?_ _ | refine Ext.setCell ?_ (by first | (simp; done) | omega | (simp; omega)) _ | refine Ext.trans (by assumption) ?_)))) M.out.2.2.2.2.2.1 M.out.2.2.2.2.2.2.1 M.out.2.2.2.2.2.2.2.1).mono ?_
        rintro e w5 ⟨v5, rfl, ⟨A5, n5, c5, rfl, I5⟩, hx5⟩
        have k5 : Ext w4 w5 := Ext.trans ((by repeat (first | assumption | exact Ext.refl _ | refine Ext.alloc ?_ _ | refine Ext.drew ?_ | refine Ext.drewN ?_ _ | refine Ext.setCell ?_ (by first | (simp; done) | omega | (simp; omega)) _ | refine Ext.trans (by assumption) ?_))) hx5
        have z5 := k5.size
        have H5 := Lib.hid (fun W (k : Ext w5 W) => I5.ext k)
        clear I5
        replace rf := k5.free r0 rf
        replace r0 := k5.cell r0
        replace r1 := k5.cell r1
        replace rl := lt_of_cell r0
        replace sf := k5.free s0 sf
        replace s0 := k5.cell s0
        replace s1 := k5.cell s1
        replace sl := lt_of_cell s0
        have hn5 : 0 = n5 := by rw [← (H5.out _ (Ext.refl _)).len]; exact M.out.2.2.2.2.2.2.2.2.1.symm
        subst hn5
        go_wp2_with fail
        refine (may_is (b := true) _ _ _ _ _ M.out.2.2.2.2.2.2.2.2.2).mono ?_
        rintro e w6 ⟨rfl, hx6⟩
        have k6 : Ext w5 w6 := Ext.trans ((by repeat (first | assumption | exact Ext.refl _ | refine Ext.alloc ?_ _ | refine Ext.drew ?_ | refine Ext.drewN ?_ _ | refine Ext.setCell ?_ (by first | (simp; done) | omega | (simp; omega)) _ | refine Ext.trans (by assumption) ?_))) hx6
        have z6 := k6.size
        replace rf := k6.free r0 rf
        replace r0 := k6.cell r0
        replace r1 := k6.cell r1
        replace rl := lt_of_cell r0
        replace sf := k6.free s0 sf
        replace s0 := k6.cell s0
        replace s1 := k6.cell s1
        replace sl := lt_of_cell s0
        obtain ⟨t0, t1, tf⟩ := hx6.box2 (B := w5.heap.size) (a := .int .i64 cap) (b := .slice A5 (0) c5) (by simp) (by simp) (by simp)
        have tl := lt_of_cell t0
        go_wp2_with fail
        refine (same_self _ _ _ _ _ _ _ _ _ (H3.out _ ((by repeat (first | assumption | exact Ext.refl _ | refine Ext.alloc ?_ _ | refine Ext.drew ?_ | refine Ext.drewN ?_ _ | refine Ext.setCell ?_ (by first | (simp; done) | omega | (simp; omega)) _ | refine Ext.trans (by assumption) ?_)))) (HA.out _ ((by repeat (first | assumption | exact Ext.refl _ | refine Ext.alloc ?_ _ | refine Ext.drew ?_ | refine Ext.drewN ?_ _ | refine Ext.setCell ?_ (by first | (simp; done) | omega | (simp; omega)) _ | refine Ext.trans (by assumption) ?_))))).mono ?_
        rintro e w7 ⟨rfl, hx7⟩
        have k7 : Ext w6 w7 := Ext.trans ((by repeat (first | assumption | exact Ext.refl _ | refine Ext.alloc ?_ _ | refine Ext.drew ?_ | refine Ext.drewN ?_ _ | refine Ext.setCell ?_ (by first | (simp; done) | omega | (simp; omega)) _ | refine Ext.trans (by assumption) ?_))) hx7
        have z7 := k7.size
        go_wp2
        go_ret
        exact ⟨rfl, (by repeat (first | assumption | exact Ext.refl _ | refine Ext.alloc ?_ _ | refine Ext.drew ?_ | refine Ext.drewN ?_ _ | refine Ext.setCell ?_ (by first | (simp; done) | omega | (simp; omega)) _ | refine Ext.trans (by assumption) ?_))⟩
      · have hpos : (0 : Int) < n := by omega
        have M := Lib.hid (show mayB cap n = true ∧ pushRB cap l = false ∧ pushRL cap l x = l ∧ l.length = n ∧ mayB cap n = true ∧ popRB cap l = true ∧ popRV cap l = popV l ∧ popRL cap l = l.tail ∧ l.tail.length = n - 1 ∧ mayB cap (n - 1) = true by
          have m1 : mayB cap (n - 1) = true := decide_eq_true ⟨hc.1, hc.2.1, by omega⟩
          have hp : popB l = true := by cases l with
            | nil => simp at hl; omega
            | cons => rfl
          simp [hB, pushRB, pushRL, pushB, pushL, popRB, popRV, popRL, hl, hfull, m1, hp])
        clear hB hfull hv
        go_enter Try.func7, Try.ntmps7
        go_wp2_with fail
        refine (awake_any _).mono ?_
        rintro e w1 ⟨rfl, hx1⟩
        have k1 : Ext w w1 := Ext.trans ((by repeat (first | assumption | exact Ext.refl _ | refine Ext.alloc ?_ _ | refine Ext.drew ?_ | refine Ext.drewN ?_ _ | refine Ext.setCell ?_ (by first | (simp; done) | omega | (simp; omega)) _ | refine Ext.trans (by assumption) ?_))) hx1
        have z1 := k1.size
        obtain ⟨r0, r1, rf⟩ := hx1.box2 (B := w.heap.size) (a := .int .i64 cap) (b := .slice A (n) c) (by simp) (by simp) (by simp)
        have rl := lt_of_cell r0
        go_wp2_with fail
        refine (may_is (b := true) _ _ _ _ _ M.out.1).mono ?_
        rintro e w2 ⟨rfl, hx2⟩
        have k2 : Ext w1 w2 := Ext.trans ((by repeat (first | assumption | exact Ext.refl _ | refine Ext.alloc ?_ _ | refine Ext.drew ?_ | refine Ext.drewN ?_ _ | refine Ext.setCell ?_ (by first | (simp; done) | omega | (simp; omega)) _ | refine Ext.trans (by assumption) ?_))) hx2
        have z2 := k2.size
        replace rf := k2.free r0 rf
        replace r0 := k2.cell r0
        replace r1 := k2.cell r1
        replace rl := lt_of_cell r0
        go_wp2_with fail
        refine (push_is (b := false) (L := l) _ _ _ _ _ x wx _ (HA.out _ ((by repeat (first | assumption | exact Ext.refl _ | refine Ext.alloc ?_ _ | refine Ext.drew ?_ | refine Ext.drewN ?_ _ | refine Ext.setCell ?_ (by first | (simp; done) | omega | (simp; omega)) _ | refine Ext.trans (by assumption) ?_)))) M.out.2.1 M.out.2.2.1).mono ?_
        rintro e w3 ⟨v3, rfl, ⟨A3, n3, c3, rfl, I3⟩, hx3⟩
        have k3 : Ext w2 w3 := Ext.trans ((by repeat (first | assumption | exact Ext.refl _ | refine Ext.alloc ?_ _ | refine Ext.drew ?_ | refine Ext.drewN ?_ _ | refine Ext.setCell ?_ (by first | (simp; done) | omega | (simp; omega)) _ | refine Ext.trans (by assumption) ?_))) hx3
        have z3 := k3.size
        have H3 := Lib.hid (fun W (k : Ext w3 W) => I3.ext k)
        clear I3
        replace rf := k3.free r0 rf
        replace r0 := k3.cell r0
        replace r1 := k3.cell r1
        replace rl := lt_of_cell r0
        have hn3 : n = n3 := by rw [← (H3.out _ (Ext.refl _)).len]; exact M.out.2.2.2.1.symm
        subst hn3
        go_wp2_with fail
        refine (may_is (b := true) _ _ _ _ _ M.out.2.2.2.2.1).mono ?_
        rintro e w4 ⟨rfl, hx4⟩
        have k4 : Ext w3 w4 := Ext.trans ((by repeat (first | assumption | exact Ext.refl _ | refine Ext.alloc ?_ _ | refine Ext.drew ?_ | refine Ext.drewN ?_ _ | refine Ext.setCell ?_ (by first | (simp; done) | omega | (simp; omega)) _ | refine Ext.trans (by assumption) ?_))) hx4
        have z4 := k4.size
        replace rf := k4.free r0 rf
        replace r0 := k4.cell r0
        replace r1 := k4.cell r1
        replace rl := lt_of_cell r0
        obtain ⟨s0, s1, sf⟩ := hx4.box2 (B := w3.heap.size) (a := .int .i64 cap) (b := .slice A3 (n) c3) (by simp) (by simp) (by simp)
        have sl := lt_of_cell s0
        go_wp2_with fail
        refine (pop_is (b := true) (y := popV l) (L := l.tail) _ _ _ _ _ _ (H3.out _ ((by repeat (first | assumption | exact Ext.refl _ | refine Ext.alloc ?_ _ | refine Ext.drew ?_ | refine Ext.drewN ?_ _ | refine Ext.setCell ?_ (by first | (simp; done) | omega | (simp; omega)) _ | refine Ext.trans (by assumption) ?_)))) M.out.2.2.2.2.2.1 M.out.2.2.2.2.2.2.1 M.out.2.2.2.2.2.2.2.1).mono ?_
        rintro e w5 ⟨v5, rfl, ⟨A5, n5, c5, rfl, I5⟩, hx5⟩
        have k5 : Ext w4 w5 := Ext.trans ((by repeat (first | assumption | exact Ext.refl _ | refine Ext.alloc ?_ _ | refine Ext.drew ?_ | refine Ext.drewN ?_ _ | refine Ext.setCell ?_ (by first | (simp; done) | omega | (simp; omega)) _ | refine Ext.trans (by assumption) ?_))) hx5
        have z5 := k5.size
        have H5 := Lib.hid (fun W (k : Ext w5 W) => I5.ext k)
        clear I5
        replace rf := k5.free r0 rf
        replace r0 := k5.cell r0
        replace r1 := k5.cell r1
        replace rl := lt_of_cell r0
        replace sf := k5.free s0 sf
        replace s0 := k5.cell s0
        replace s1 := k5.cell s1
        replace sl := lt_of_cell s0
        have hn5 : n - 1 = n5 := by rw [← (H5.out _ (Ext.refl _)).len]; exact M.out.2.2.2.2.2.2.2.2.1.symm
        subst hn5
        go_wp2_with fail
        refine (may_is (b := true) _ _ _ _ _ M.out.2.2.2.2.2.2.2.2.2).mono ?_
        rintro e w6 ⟨rfl, hx6⟩
        have k6 : Ext w5 w6 := Ext.trans ((by repeat (first | assumption | exact Ext.refl _ | refine Ext.alloc ?_ _ | refine Ext.drew ?_ | refine Ext.drewN ?_ _ | refine Ext.setCell ?_ (by first | (simp; done) | omega | (simp; omega)) _ | refine Ext.trans (by assumption) ?_))) hx6
        have z6 := k6.size
        replace rf := k6.free r0 rf
        replace r0 := k6.cell r0
        replace r1 := k6.cell r1
        replace rl := lt_of_cell r0
        replace sf := k6.free s0 sf
        replace s0 := k6.cell s0
        replace s1 := k6.cell s1
        replace sl := lt_of_cell s0
        obtain ⟨t0, t1, tf⟩ := hx6.box2 (B := w5.heap.size) (a := .int .i64 cap) (b := .slice A5 (n - 1) c5) (by simp) (by simp) (by simp)
        have tl := lt_of_cell t0
        go_wp2_with fail
        refine (same_self _ _ _ _ _ _ _ _ _ (H3.out _ ((by repeat (first | assumption | exact Ext.refl _ | refine Ext.alloc ?_ _ | refine Ext.drew ?_ | refine Ext.drewN ?_ _ | refine Ext.setCell ?_ (by first | (simp; done) | omega | (simp; omega)) _ | refine Ext.trans (by assumption) ?_)))) (HA.out _ ((by repeat (first | assumption | exact Ext.refl _ | refine Ext.alloc ?_ _ | refine Ext.drew ?_ | refine Ext.drewN ?_ _ | refine Ext.setCell ?_ (by first | (simp; done) | omega | (simp; omega)) _ | refine Ext.trans (by assumption) ?_))))).mono ?_
        rintro e w7 ⟨rfl, hx7⟩
        have k7 : Ext w6 w7 := Ext.trans ((by repeat (first | assumption | exact Ext.refl _ | refine Ext.alloc ?_ _ | refine Ext.drew ?_ | refine Ext.drewN ?_ _ | refine Ext.setCell ?_ (by first | (simp; done) | omega | (simp; omega)) _ | refine Ext.trans (by assumption) ?_))) hx7
        have z7 := k7.size
        go_wp2
        go_ret
        exact ⟨rfl, (by repeat (first | assumption | exact Ext.refl _ | refine Ext.alloc ?_ _ | refine Ext.drew ?_ | refine Ext.drewN ?_ _ | refine Ext.setCell ?_ (by first | (simp; done) | omega | (simp; omega)) _ | refine Ext.trans (by assumption) ?_))⟩
    · have hlt : (n : Int) < cap := by omega
      have hn1 : (n : Int) + 1 ≤ cap := by omega
      by_cases h0 : n = 0
      · subst h0
        obtain rfl := List.eq_nil_of_length_eq_zero hl
        have M := Lib.hid (show mayB cap 0 = true ∧ pushRB cap [] = true ∧ pushRL cap [] x = [x] ∧ ([x] : List Int).length = 1 ∧ mayB cap 1 = true ∧ popRB cap [x] = true ∧ popRV cap [x] = x ∧ popRL cap [x] = [] ∧ ([] : List Int).length = 0 ∧ mayB cap 0 = true by
          have m1 : mayB cap 1 = true := decide_eq_true ⟨hc.1, hc.2.1, by omega⟩
          have e0 : ¬ (0 : Int) = cap := by omega
          simp [hB, pushRB, pushRL, pushB, pushL, popRB, popRV, popRL, popB, popV, m1, e0])
        have hz : (0 : Int) < cap := by omega
        clear hB hfull hlt hv hn1
        go_enter Try.func7, Try.ntmps7
        go_wp2_with fail
        refine (awake_any _).mono ?_
        rintro e w1 ⟨rfl, hx1⟩
        have k1 : Ext w w1 := Ext.trans ((by repeat (first | assumption | exact Ext.refl _ | refine Ext.alloc ?_ _ | refine Ext.drew ?_ | refine Ext.drewN ?_ _ | refine Ext.setCell ?_ (by first | (simp; done) | omega | (simp; omega)) _ | refine Ext.trans (by assumption) ?_))) hx1
        have z1 := k1.size
        obtain ⟨r0, r1, rf⟩ := hx1.box2 (B := w.heap.size) (a := .int .i64 cap) (b := .slice A (0) c) (by simp) (by simp) (by simp)
        have rl := lt_of_cell r0
        go_wp2_with fail
        refine (may_is (b := true) _ _ _ _ _ M.out.1).mono ?_
        rintro e w2 ⟨rfl, hx2⟩
        have k2 : Ext w1 w2 := Ext.trans ((by repeat (first | assumption | exact Ext.refl _ | refine Ext.alloc ?_ _ | refine Ext.drew ?_ | refine Ext.drewN ?_ _ | refine Ext.setCell ?_ (by first | (simp; done) | omega | (simp; omega)) _ | refine Ext.trans (by assumption) ?_))) hx2
        have z2 := k2.size
        replace rf := k2.free r0 rf
        replace r0 := k2.cell r0
        replace r1 := k2.cell r1
        replace rl := lt_of_cell r0
        go_wp2_with fail
        refine (push_is (b := true) (L := [x]) _ _ _ _ _ x wx _ (HA.out _ ((by repeat (first | assumption | exact Ext.refl _ | refine Ext.alloc ?_ _ | refine Ext.drew ?_ | refine Ext.drewN ?_ _ | refine Ext.setCell ?_ (by first | (simp; done) | omega | (simp; omega)) _ | refine Ext.trans (by assumption) ?_)))) M.out.2.1 M.out.2.2.1).mono ?_
        rintro e w3 ⟨v3, rfl, ⟨A3, n3, c3, rfl, I3⟩, hx3⟩
        have k3 : Ext w2 w3 := Ext.trans ((by repeat (first | assumption | exact Ext.refl _ | refine Ext.alloc ?_ _ | refine Ext.drew ?_ | refine Ext.drewN ?_ _ | refine Ext.setCell ?_ (by first | (simp; done) | omega | (simp; omega)) _ | refine Ext.trans (by assumption) ?_))) hx3
        have z3 := k3.size
        have H3 := Lib.hid (fun W (k : Ext w3 W) => I3.ext k)
        clear I3
        replace rf := k3.free r0 rf
        replace r0 := k3.cell r0
        replace r1 := k3.cell r1
        replace rl := lt_of_cell r0
        have hn3 : 1 = n3 := by rw [← (H3.out _ (Ext.refl _)).len]; exact M.out.2.2.2.1.symm
        subst hn3
        go_wp2_with fail
        refine (may_is (b := true) _ _ _ _ _ M.out.2.2.2.2.1).mono ?_
        rintro e w4 ⟨rfl, hx4⟩
        have k4 : Ext w3 w4 := Ext.trans ((by repeat (first | assumption | exact Ext.refl _ | refine Ext.alloc ?_ _ | refine Ext.drew ?_ | refine Ext.drewN ?_ _ | refine Ext.setCell ?_ (by first | (simp; done) | omega | (simp; omega)) _ | refine Ext.trans (by assumption) ?_))) hx4
        have z4 := k4.size
        replace rf := k4.free r0 rf
        replace r0 := k4.cell r0
        replace r1 := k4.cell r1
        replace rl := lt_of_cell r0
        obtain ⟨s0, s1, sf⟩ := hx4.box2 (B := w3.heap.size) (a := .int .i64 cap) (b := .slice A3 (1) c3) (by simp) (by simp) (by simp)
        have sl := lt_of_cell s0
        go_wp2_with fail
        refine (pop_is (b := true) (y := x) (L := []) _ _ _ _ _ _ (H3.out _ ((by repeat (first | assumption | exact Ext.refl _ | refine Ext.alloc ?_ _ | refine Ext.drew ?_ | refine Ext.drewN ?_ _ | refine Ext.setCell ?_ (by first | (simp; done) | omega | (simp; omega)) _ | refine Ext.trans (by assumption) ?_)))) M.out.2.2.2.2.2.1 M.out.2.2.2.2.2.2.1 M.out.2.2.2.2.2.2.2.1).mono ?_
        rintro e w5 ⟨v5, rfl, ⟨A5, n5, c5, rfl, I5⟩, hx5⟩
        have k5 : Ext w4 w5 := Ext.trans ((by repeat (first | assumption | exact Ext.refl _ | refine Ext.alloc ?_ _ | refine Ext.drew ?_ | refine Ext.drewN ?_ _ | refine Ext.setCell ?_ (by first | (simp; done) | omega | (simp; omega)) _ | refine Ext.trans (by assumption) ?_))) hx5
        have z5 := k5.size
        have H5 := Lib.hid (fun W (k : Ext w5 W) => I5.ext k)
        clear I5
        replace rf := k5.free r0 rf
        replace r0 := k5.cell r0
        replace r1 := k5.cell r1
        replace rl := lt_of_cell r0
        replace sf := k5.free s0 sf
        replace s0 := k5.cell s0
        replace s1 := k5.cell s1
        replace sl := lt_of_cell s0
        have hn5 : 0 = n5 := by rw [← (H5.out _ (Ext.refl _)).len]; exact M.out.2.2.2.2.2.2.2.2.1.symm
        subst hn5
        go_wp2_with fail
        refine (may_is (b := true) _ _ _ _ _ M.out.2.2.2.2.2.2.2.2.2).mono ?_
        rintro e w6 ⟨rfl, hx6⟩
        have k6 : Ext w5 w6 := Ext.trans ((by repeat (first | assumption | exact Ext.refl _ | refine Ext.alloc ?_ _ | refine Ext.drew ?_ | refine Ext.drewN ?_ _ | refine Ext.setCell ?_ (by first | (simp; done) | omega | (simp; omega)) _ | refine Ext.trans (by assumption) ?_))) hx6
        have z6 := k6.size
        replace rf := k6.free r0 rf
        replace r0 := k6.cell r0
        replace r1 := k6.cell r1
        replace rl := lt_of_cell r0
        replace sf := k6.free s0 sf
        replace s0 := k6.cell s0
        replace s1 := k6.cell s1
        replace sl := lt_of_cell s0
        obtain ⟨t0, t1, tf⟩ := hx6.box2 (B := w5.heap.size) (a := .int .i64 cap) (b := .slice A5 (0) c5) (by simp) (by simp) (by simp)
        have tl := lt_of_cell t0
        go_wp2
        go_ret
        exact ⟨rfl, (by repeat (first | assumption | exact Ext.refl _ | refine Ext.alloc ?_ _ | refine Ext.drew ?_ | refine Ext.drewN ?_ _ | refine Ext.setCell ?_ (by first | (simp; done) | omega | (simp; omega)) _ | refine Ext.trans (by assumption) ?_))⟩
      · have hpos : (0 : Int) < n := by omega
        rcases hv with hv | ⟨b, off, rfl, hcell⟩
        · exact absurd hv h0
        have hc0 : w.cell? ⟨b, off, none⟩ = some (.int .i64 (popV l)) := by
          have := hcell 0 (by omega)
          rw [nth_head (by omega)] at this
          exact this
        have M := Lib.hid (show mayB cap n = true ∧ pushRB cap l = true ∧ pushRL cap l x = l ++ [x] ∧ (l ++ [x]).length = n + 1 ∧ mayB cap (n + 1) = true ∧ popRB cap (l ++ [x]) = true ∧ popRV cap (l ++ [x]) = popV l ∧ popRL cap (l ++ [x]) = l.tail ++ [x] ∧ (l.tail ++ [x]).length = n ∧ mayB cap n = true by
          have m1 : mayB cap (n + 1) = true := decide_eq_true ⟨hc.1, hc.2.1, by omega⟩
          cases l with
          | nil => simp at hl; omega
          | cons a l => simp at hl; simp [hB, pushRB, pushRL, pushB, pushL, popRB, popRV, popRL, popB, popV, m1, hl, hfull])
        have hp1 : (0 : Int) < (n : Int) + 1 := by omega
        have hw1 : IntKind.i64.wrap ((n : Int) + 1) = (n : Int) + 1 := by rw [IntWalk.i64_in _ (by omega)]
        have hz : ¬ (n : Int) = 0 := by omega
        clear hB hfull hcell
        generalize popV l = y at *
        go_enter Try.func7, Try.ntmps7
        go_wp2_with fail
        refine (awake_any _).mono ?_
        rintro e w1 ⟨rfl, hx1⟩
        have k1 : Ext w w1 := Ext.trans ((by repeat (first | assumption | exact Ext.refl _ | refine Ext.alloc ?_ _ | refine Ext.drew ?_ | refine Ext.drewN ?_ _ | refine Ext.setCell ?_ (by first | (simp; done) | omega | (simp; omega)) _ | refine Ext.trans (by assumption) ?_))) hx1
        have z1 := k1.size
        obtain ⟨r0, r1, rf⟩ := hx1.box2 (B := w.heap.size) (a := .int .i64 cap) (b := .slice (some ⟨b, off, none⟩) (n) c) (by simp) (by simp) (by simp)
        have rl := lt_of_cell r0
        go_wp2_with fail
        refine (may_is (b := true) _ _ _ _ _ M.out.1).mono ?_
        rintro e w2 ⟨rfl, hx2⟩
        have k2 : Ext w1 w2 := Ext.trans ((by repeat (first | assumption | exact Ext.refl _ | refine Ext.alloc ?_ _ | refine Ext.drew ?_ | refine Ext.drewN ?_ _ | refine Ext.setCell ?_ (by first | (simp; done) | omega | (simp; omega)) _ | refine Ext.trans (by assumption) ?_))) hx2
        have z2 := k2.size
        replace rf := k2.free r0 rf
        replace r0 := k2.cell r0
        replace r1 := k2.cell r1
        replace rl := lt_of_cell r0
        go_wp2_with fail
        refine (push_is (b := true) (L := l ++ [x]) _ _ _ _ _ x wx _ (HA.out _ ((by repeat (first | assumption | exact Ext.refl _ | refine Ext.alloc ?_ _ | refine Ext.drew ?_ | refine Ext.drewN ?_ _ | refine Ext.setCell ?_ (by first | (simp; done) | omega | (simp; omega)) _ | refine Ext.trans (by assumption) ?_)))) M.out.2.1 M.out.2.2.1).mono ?_
        rintro e w3 ⟨v3, rfl, ⟨A3, n3, c3, rfl, I3⟩, hx3⟩
        have k3 : Ext w2 w3 := Ext.trans ((by repeat (first | assumption | exact Ext.refl _ | refine Ext.alloc ?_ _ | refine Ext.drew ?_ | refine Ext.drewN ?_ _ | refine Ext.setCell ?_ (by first | (simp; done) | omega | (simp; omega)) _ | refine Ext.trans (by assumption) ?_))) hx3
        have z3 := k3.size
        have H3 := Lib.hid (fun W (k : Ext w3 W) => I3.ext k)
        clear I3
        replace rf := k3.free r0 rf
        replace r0 := k3.cell r0
        replace r1 := k3.cell r1
        replace rl := lt_of_cell r0
        have hn3 : n + 1 = n3 := by rw [← (H3.out _ (Ext.refl _)).len]; exact M.out.2.2.2.1.symm
        subst hn3
        go_wp2_with fail
        refine (may_is (b := true) _ _ _ _ _ M.out.2.2.2.2.1).mono ?_
        rintro e w4 ⟨rfl, hx4⟩
        have k4 : Ext w3 w4 := Ext.trans ((by repeat (first | assumption | exact Ext.refl _ | refine Ext.alloc ?_ _ | refine Ext.drew ?_ | refine Ext.drewN ?_ _ | refine Ext.setCell ?_ (by first | (simp; done) | omega | (simp; omega)) _ | refine Ext.trans (by assumption) ?_))) hx4
        have z4 := k4.size
        replace rf := k4.free r0 rf
        replace r0 := k4.cell r0
        replace r1 := k4.cell r1
        replace rl := lt_of_cell r0
        obtain ⟨s0, s1, sf⟩ := hx4.box2 (B := w3.heap.size) (a := .int .i64 cap) (b := .slice A3 (n + 1) c3) (by simp) (by simp) (by simp)
        have sl := lt_of_cell s0
        go_wp2_with fail
        refine (pop_is (b := true) (y := y) (L := l.tail ++ [x]) _ _ _ _ _ _ (H3.out _ ((by repeat (first | assumption | exact Ext.refl _ | refine Ext.alloc ?_ _ | refine Ext.drew ?_ | refine Ext.drewN ?_ _ | refine Ext.setCell ?_ (by first | (simp; done) | omega | (simp; omega)) _ | refine Ext.trans (by assumption) ?_)))) M.out.2.2.2.2.2.1 M.out.2.2.2.2.2.2.1 M.out.2.2.2.2.2.2.2.1).mono ?_
        rintro e w5 ⟨v5, rfl, ⟨A5, n5, c5, rfl, I5⟩, hx5⟩
        have k5 : Ext w4 w5 := Ext.trans ((by repeat (first | assumption | exact Ext.refl _ | refine Ext.alloc ?_ _ | refine Ext.drew ?_ | refine Ext.drewN ?_ _ | refine Ext.setCell ?_ (by first | (simp; done) | omega | (simp; omega)) _ | refine Ext.trans (by assumption) ?_))) hx5
        have z5 := k5.size
        have H5 := Lib.hid (fun W (k : Ext w5 W) => I5.ext k)
        clear I5
        replace rf := k5.free r0 rf
        replace r0 := k5.cell r0
        replace r1 := k5.cell r1
        replace rl := lt_of_cell r0
        replace sf := k5.free s0 sf
        replace s0 := k5.cell s0
        replace s1 := k5.cell s1
        replace sl := lt_of_cell s0
        have hn5 : n = n5 := by rw [← (H5.out _ (Ext.refl _)).len]; exact M.out.2.2.2.2.2.2.2.2.1.symm
        subst hn5
        go_wp2_with fail
        refine (may_is (b := true) _ _ _ _ _ M.out.2.2.2.2.2.2.2.2.2).mono ?_
        rintro e w6 ⟨rfl, hx6⟩
        have k6 : Ext w5 w6 := Ext.trans ((by repeat (first | assumption | exact Ext.refl _ | refine Ext.alloc ?_ _ | refine Ext.drew ?_ | refine Ext.drewN ?_ _ | refine Ext.setCell ?_ (by first | (simp; done) | omega | (simp; omega)) _ | refine Ext.trans (by assumption) ?_))) hx6
        have z6 := k6.size
        replace rf := k6.free r0 rf
        replace r0 := k6.cell r0
        replace r1 := k6.cell r1
        replace rl := lt_of_cell r0
        replace sf := k6.free s0 sf
        replace s0 := k6.cell s0
        replace s1 := k6.cell s1
        replace sl := lt_of_cell s0
        obtain ⟨t0, t1, tf⟩ := hx6.box2 (B := w5.heap.size) (a := .int .i64 cap) (b := .slice A5 (n) c5) (by simp) (by simp) (by simp)
        have tl := lt_of_cell t0
        have d0 := (((((k1.trans k2).trans k3).trans k4).trans k5).trans k6).cell hc0
        go_wp2
        go_ret
        exact ⟨rfl, (by repeat (first | assumption | exact Ext.refl _ | refine Ext.alloc ?_ _ | refine Ext.drew ?_ | refine Ext.drewN ?_ _ | refine Ext.setCell ?_ (by first | (simp; done) | omega | (simp; omega)) _ | refine Ext.trans (by assumption) ?_))⟩
set_option maxRecDepth 100000 in
theorem RingRoom_lifted (os : Os) (started : os.Started) (H : Type) (enc : TypeId × Value → H) :
    ReturnsInHanded {} Try.checked os 7 .any (Rows.ringRoomSpec.pre6 enc Try.prog Try.f7 Rows.ringRoomRow.domain false) (Rows.ringRoomSpec.post enc Try.prog Try.f7 false true false false) := by
  refine returnsInHanded_of_change_sized (C := Try.checked) own started (by kernel_rfl) Try.func7
    (ChangeSpec.witness6 (enc := enc) (C := Try.checked) false ⟨#[], #[.agg #[.int .i64 0, .slice none 0 0], .int .i64 0], []⟩ 8 (by kernel_rfl) (by kernel_rfl) (by kernel_rfl) (by kernel_rfl)) ?_
  intro W base args ds gs before hval0 hW _hcnd hsz0 _
  have hval : ∀ (j : Nat) t v, Try.f7.params[j]? = some t → args[j]? = some v → Value.okWide Try.prog W .any base t v := hval0
  have hsz : (DataW.weightsEach Try.prog (Try.f7.params.toList ++ Rows.ringRoomSpec.plain.varTypes Try.prog) (ds ++ gs)).all (· ≤ reachBytes) = true := hsz0
  have hW' := hW
  obtain ⟨p, q, hA0, hV, rfl, hfz, hnd⟩ := hW
  have hA : DataW.TrodAll enc Try.prog W 0 (fun _ => true) true Try.f7.params.toList args.toList ds p := hA0
  rw [Try.params7] at hA hval hsz
  obtain ⟨v0, vs0, d0, ds0, p0, q0, hargs, rfl, rfl, h0, r0⟩ := trodAll_cons hA
  obtain ⟨v1, vs1, d1, ds1, p1, q1, rfl, rfl, rfl, h1, r1⟩ := trodAll_cons r0
  obtain ⟨rfl, rfl, rfl⟩ := trodAll_nil r1
  obtain rfl : args = #[v0, v1] := by cases args; simp_all
  obtain ⟨rfl, rfl⟩ := trodVars_none hV
  have h0k := h0
  have h1k := h1
  have hlt0 : ∀ x ∈ p0, x.block < W.heap.size := fun x hx => by have := hW'.lt x (by simp [hx]); simpa using this
  have hlt1 : ∀ x ∈ p1, x.block < W.heap.size := fun x hx => by have := hW'.lt x (by simp [hx]); simpa using this
  obtain ⟨rk, r, rA, rn, rc, hkr, rfl, hr⟩ := open_Ring Try.underlying24 (by kernel_rfl) (by kernel_rfl) Try.underlying3 Try.underlying22 Try.underlying3 (by kernel_rfl) (by kernel_rfl) (hval 0 24 v0 rfl rfl) h0 hsz (j := 0) rfl rfl
  obtain ⟨x, rfl, hx1, hx2⟩ := open_I64 Try.underlying3 (hval 1 3 v1 rfl rfl) h1
  clear hA0 hval0
  simp only [List.append_nil] at hW'
  refine (RingRoom_walk rA rn rc rk r hkr hr x hx1 hx2 (w := W)).mono fun e W' ⟨he, hg⟩ => ?_
  subst he
  exact ⟨_, rfl, post_law (pa := p0 ++ (p1 ++ [])) (pv := []) hW' (fun _ _ _ => (trodAll_cons_mk (shut_bool Try.underlying4 _) trodAll_mk0))
    (trodAll_cons_mk (Below.trod laidOut (by kernel_rfl) (of_decide_eq_true (by kernel_rfl)) h0k hg.out hlt0) (trodAll_cons_mk (Below.trod laidOut (by kernel_rfl) (of_decide_eq_true (by kernel_rfl)) h1k hg.out hlt1) trodAll_mk0)) rfl (by simp) hg⟩
theorem RingRoom_holds : Rows.RingRoomSaid :=
  OpenClaim.holds_of_wide 7 Try.f7 rfl rfl rfl rfl rfl rfl rfl ⟨rfl, rfl, rfl, rfl, rfl⟩ rfl rfl rfl rfl rfl (by kernel_rfl) Try.func7 (by kernel_rfl)
    (of_decide_eq_true (by kernel_rfl)) (by unfold Func.isWrapper; first | (rw [if_pos (by decide +kernel)]; kernel_rfl) | (rw [if_neg (by decide +kernel)]; exact ⟨rfl, rfl⟩))
    (fun os started H enc _ => RingRoom_lifted os started H enc)
#print axioms RingRoom_holds
end Go.Proofs.Ytpggilainapoaaa
