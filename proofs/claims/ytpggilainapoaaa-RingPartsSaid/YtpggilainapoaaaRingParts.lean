/- RingParts: numbers gone through are the first ones of them, and then the others: the same ring behind them, and the same told; for every input. -/
import Derived.Test.YtpggilainapoaaaRingLaw
namespace Go.Proofs.Ytpggilainapoaaa
open Go.RowKit Go.WideShapes Go.ChangeShapes
set_option linter.unusedVariables false
set_option linter.unusedSimpArgs false


theorem may_is {b : Bool} (A : Option Addr) (n c : Nat) (cap : Int) (w : World) (h : mayB cap n = b) : Calls Try.prog 10 #[.agg #[.int .i64 cap, .slice A n c]] w fun e w' => e = .returned (.bool b) ∧ Ext w w' := by
  have k := may_any A n c cap w
  rw [h] at k
  exact k
theorem same_self (cap : Int) (L : List Int) (A : Option Addr) (n c : Nat) (B : Option Addr) (n' d : Nat) (w : World) (h : Ints w .i64 A n c L) (g : Ints w .i64 B n' d L) :
    Calls Try.prog 13 #[.agg #[.int .i64 cap, .slice A n c], .agg #[.int .i64 cap, .slice B n' d]] w fun e w' => e = .returned (.bool true) ∧ Ext w w' := by
  have k := ringSame_any A n c B n' d cap cap L L w h g
  rw [show eqR cap cap L L = true by simp [eqR, eqI]] at k
  exact k
theorem ints_self (L : List Int) (A : Option Addr) (n c : Nat) (B : Option Addr) (n' d : Nat) (w : World) (h : Ints w .i64 A n c L) (g : Ints w .i64 B n' d L) :
    Calls Try.prog 12 #[.slice A n c, .slice B n' d] w fun e w' => e = .returned (.bool true) ∧ Ext w w' := by
  have k := intsEq_any A n c B n' d L L w h g
  rw [show eqI L L = true by simp [eqI]] at k
  exact k
theorem wf_app {xs ys : List Int} (h : ∀ x ∈ xs, (Lit.int .i64 x).wf = true) (g : ∀ x ∈ ys, (Lit.int .i64 x).wf = true) : ∀ x ∈ xs ++ ys, (Lit.int .i64 x).wf = true := by
  intro x hx
  rcases List.mem_append.1 hx with hx | hx
  · exact h x hx
  · exact g x hx
theorem box_grown {W w' : World} {row : Option Nat} {B : Nat} {a b : Value} (hg : W.grownBy w' row) (h0 : W.cell? ⟨B, 0, none⟩ = some a) (h1 : W.cell? ⟨B, 1, none⟩ = some b) (hf : ∀ o, W.frozen? ⟨B, o, none⟩ = false) (hne : some B ≠ row) :
    w'.cell? ⟨B, 0, none⟩ = some a ∧ w'.cell? ⟨B, 1, none⟩ = some b ∧ ∀ o, w'.frozen? ⟨B, o, none⟩ = false := by
  have hb : w'.heap[B]? = W.heap[B]? := hg.block B (lt_of_cell h0) hne
  exact ⟨by rw [World.cell?_of_block (w := W) hb]; exact h0, by rw [World.cell?_of_block (w := W) hb]; exact h1, fun o => by rw [World.frozen?_of_block (w := W) (a := ⟨B, o, none⟩) hb]; exact hf o⟩





set_option maxHeartbeats 8000000 in
theorem RingParts_walk {w : World} (A : Option Addr) (n c : Nat) (cap : Int) (l : List Int) (hcap : (Lit.int .i64 cap).wf = true) (h : Ints w .i64 A n c l) (B1 : Option Addr) (m1 d1 : Nat) (xs : List Int) (g1 : Ints w .i64 B1 m1 d1 xs) (B2 : Option Addr) (m2 d2 : Nat) (ys : List Int) (g2 : Ints w .i64 B2 m2 d2 ys) :
    Calls Try.prog 4 #[.agg #[.int .i64 cap, .slice A n c], .slice B1 m1 d1, .slice B2 m2 d2] w fun e w' => e = .returned (.bool true) ∧ Ext w w' := by
  have HA := Lib.hid (fun W (k : Ext w W) => h.ext k)
  have HB1 := Lib.hid (fun W (k : Ext w W) => g1.ext k)
  have HB2 := Lib.hid (fun W (k : Ext w W) => g2.ext k)
  have HW := Lib.hid (wf_app g1.wf g2.wf)
  have hr1 := g1.room
  have hr2 := g2.room
  have L1 := Lib.hid g1.len
  have L2 := Lib.hid g2.len
  have hl := h.len
  have HT0 : mayB cap n = true → ∀ y ∈ runT cap l (xs ++ ys), (Lit.int .i64 y).wf = true := fun _ => (run_wf (cap := cap) (xs ++ ys) l h.wf HW.out).2
  clear h g1 g2 hcap
  cases hB : mayB cap n with
  | false =>
    go_enter Try.func4, Try.ntmps4
    go_wp2_with fail
    refine (awake_any _).mono ?_
    rintro e w1 ⟨rfl, hx1⟩
    have k1 : Ext w w1 := Ext.trans ((by repeat (first | assumption | exact Ext.refl _ | refine Ext.alloc ?_ _ | refine Ext.drew ?_ | refine Ext.drewN ?_ _ | refine Ext.setCell ?_ (by first | (simp; done) | omega | (simp; omega)) _ | refine Ext.trans (by assumption) ?_))) hx1
    have z1 := k1.size
    obtain ⟨r0, r1, rf⟩ := hx1.box2 (B := w.heap.size) (a := .int .i64 cap) (b := .slice A n c) (by simp) (by simp) (by simp)
    have rl := lt_of_cell r0
    go_wp2_with fail
    refine (may_is _ _ _ _ _ hB).mono ?_
    rintro e w2 ⟨rfl, hx2⟩
    have k2 : Ext w1 w2 := Ext.trans ((by repeat (first | assumption | exact Ext.refl _ | refine Ext.alloc ?_ _ | refine Ext.drew ?_ | refine Ext.drewN ?_ _ | refine Ext.setCell ?_ (by first | (simp; done) | omega | (simp; omega)) _ | refine Ext.trans (by assumption) ?_))) hx2
    have z2 := k2.size
    replace rf := k2.free r0 rf
    replace r0 := k2.cell r0
    replace r1 := k2.cell r1
    replace rl := lt_of_cell r0
    go_wp2
    go_ret
    exact ⟨rfl, (by repeat (first | assumption | exact Ext.refl _ | refine Ext.alloc ?_ _ | refine Ext.drew ?_ | refine Ext.drewN ?_ _ | refine Ext.setCell ?_ (by first | (simp; done) | omega | (simp; omega)) _ | refine Ext.trans (by assumption) ?_))⟩
  | true =>
    by_cases h1 : (100 : Int) < m1
    · go_enter Try.func4, Try.ntmps4
      go_wp2_with fail
      refine (awake_any _).mono ?_
      rintro e w1 ⟨rfl, hx1⟩
      have k1 : Ext w w1 := Ext.trans ((by repeat (first | assumption | exact Ext.refl _ | refine Ext.alloc ?_ _ | refine Ext.drew ?_ | refine Ext.drewN ?_ _ | refine Ext.setCell ?_ (by first | (simp; done) | omega | (simp; omega)) _ | refine Ext.trans (by assumption) ?_))) hx1
      have z1 := k1.size
      obtain ⟨r0, r1, rf⟩ := hx1.box2 (B := w.heap.size) (a := .int .i64 cap) (b := .slice A n c) (by simp) (by simp) (by simp)
      have rl := lt_of_cell r0
      go_wp2_with fail
      refine (may_is _ _ _ _ _ hB).mono ?_
      rintro e w2 ⟨rfl, hx2⟩
      have k2 : Ext w1 w2 := Ext.trans ((by repeat (first | assumption | exact Ext.refl _ | refine Ext.alloc ?_ _ | refine Ext.drew ?_ | refine Ext.drewN ?_ _ | refine Ext.setCell ?_ (by first | (simp; done) | omega | (simp; omega)) _ | refine Ext.trans (by assumption) ?_))) hx2
      have z2 := k2.size
      replace rf := k2.free r0 rf
      replace r0 := k2.cell r0
      replace r1 := k2.cell r1
      replace rl := lt_of_cell r0
      go_wp2
      go_ret
      exact ⟨rfl, (by repeat (first | assumption | exact Ext.refl _ | refine Ext.alloc ?_ _ | refine Ext.drew ?_ | refine Ext.drewN ?_ _ | refine Ext.setCell ?_ (by first | (simp; done) | omega | (simp; omega)) _ | refine Ext.trans (by assumption) ?_))⟩
    · by_cases h2 : (100 : Int) < m2
      · go_enter Try.func4, Try.ntmps4
        go_wp2_with fail
        refine (awake_any _).mono ?_
        rintro e w1 ⟨rfl, hx1⟩
        have k1 : Ext w w1 := Ext.trans ((by repeat (first | assumption | exact Ext.refl _ | refine Ext.alloc ?_ _ | refine Ext.drew ?_ | refine Ext.drewN ?_ _ | refine Ext.setCell ?_ (by first | (simp; done) | omega | (simp; omega)) _ | refine Ext.trans (by assumption) ?_))) hx1
        have z1 := k1.size
        obtain ⟨r0, r1, rf⟩ := hx1.box2 (B := w.heap.size) (a := .int .i64 cap) (b := .slice A n c) (by simp) (by simp) (by simp)
        have rl := lt_of_cell r0
        go_wp2_with fail
        refine (may_is _ _ _ _ _ hB).mono ?_
        rintro e w2 ⟨rfl, hx2⟩
        have k2 : Ext w1 w2 := Ext.trans ((by repeat (first | assumption | exact Ext.refl _ | refine Ext.alloc ?_ _ | refine Ext.drew ?_ | refine Ext.drewN ?_ _ | refine Ext.setCell ?_ (by first | (simp; done) | omega | (simp; omega)) _ | refine Ext.trans (by assumption) ?_))) hx2
        have z2 := k2.size
        replace rf := k2.free r0 rf
        replace r0 := k2.cell r0
        replace r1 := k2.cell r1
        replace rl := lt_of_cell r0
        go_wp2
        go_ret
        exact ⟨rfl, (by repeat (first | assumption | exact Ext.refl _ | refine Ext.alloc ?_ _ | refine Ext.drew ?_ | refine Ext.drewN ?_ _ | refine Ext.setCell ?_ (by first | (simp; done) | omega | (simp; omega)) _ | refine Ext.trans (by assumption) ?_))⟩
      · go_enter Try.func4, Try.ntmps4
        go_wp2_with fail
        refine (awake_any _).mono ?_
        rintro e w1 ⟨rfl, hx1⟩
        have k1 : Ext w w1 := Ext.trans ((by repeat (first | assumption | exact Ext.refl _ | refine Ext.alloc ?_ _ | refine Ext.drew ?_ | refine Ext.drewN ?_ _ | refine Ext.setCell ?_ (by first | (simp; done) | omega | (simp; omega)) _ | refine Ext.trans (by assumption) ?_))) hx1
        have z1 := k1.size
        obtain ⟨r0, r1, rf⟩ := hx1.box2 (B := w.heap.size) (a := .int .i64 cap) (b := .slice A n c) (by simp) (by simp) (by simp)
        have rl := lt_of_cell r0
        go_wp2_with fail
        refine (may_is _ _ _ _ _ hB).mono ?_
        rintro e w2 ⟨rfl, hx2⟩
        have k2 : Ext w1 w2 := Ext.trans ((by repeat (first | assumption | exact Ext.refl _ | refine Ext.alloc ?_ _ | refine Ext.drew ?_ | refine Ext.drewN ?_ _ | refine Ext.setCell ?_ (by first | (simp; done) | omega | (simp; omega)) _ | refine Ext.trans (by assumption) ?_))) hx2
        have z2 := k2.size
        replace rf := k2.free r0 rf
        replace r0 := k2.cell r0
        replace r1 := k2.cell r1
        replace rl := lt_of_cell r0
        go_wp2_with fail
        have HT := Lib.hid (HT0 hB)
        have HC := Lib.hid (show (l.length : Int) ≤ cap by rw [hl]; unfold mayB at hB; exact (of_decide_eq_true hB).2.2)
        clear HT0
        have n2' := World.new_ne w2 _ r0
        simp only at n2'
        go_region_held3 (fun w' => w'.cell? ⟨w.heap.size, 0, none⟩ = some (.int .i64 cap) ∧ w'.cell? ⟨w.heap.size, 1, none⟩ = some (.slice A n c)) (go_keep) (first | (refine step_app rowInts rfl _ _ rfl (w2.heap.size + 1) (.slice none 0 0) 0 [] rfl (own_new _ _ _ _) B1 m1 d1 (xs.map (Value.int .i64)) rfl (ints_src (HB1.out _ ((by repeat (first | assumption | exact Ext.refl _ | refine Ext.alloc ?_ _ | refine Ext.drew ?_ | refine Ext.drewN ?_ _ | refine Ext.setCell ?_ (by first | (simp; done) | omega | (simp; omega)) _ | refine Ext.trans (by assumption) ?_))))) (by omega) (by first | (simp; done) | fail) ?_; intro v3 w3 hown3 hg3 hat3; rw [Nat.zero_add, List.nil_append] at hown3; have x3 : Ext w2 w3 := Ext.grown ((by repeat (first | assumption | exact Ext.refl _ | refine Ext.alloc ?_ _ | refine Ext.drew ?_ | refine Ext.drewN ?_ _ | refine Ext.setCell ?_ (by first | (simp; done) | omega | (simp; omega)) _ | refine Ext.trans (by assumption) ?_))) hg3 (by intro k hk; exact absurd hk (by simp [Value.ownBlock])); have z3 := x3.size; have r03 := x3.cell r0; have r13 := x3.cell r1; have n3' := World.new_ne w3 _ r03; simp only at n3'; have y3 := Ext.grown (Ext.refl _) hg3 (by intro k hk; exact absurd hk (by simp [Value.ownBlock])); have z3' : w2.heap.size + 1 ≤ w3.heap.size := (by have := y3.size; simpa using this); obtain ⟨d0, d1', df⟩ := y3.box2 (B := w2.heap.size) (a := .int .i64 0) (b := .slice none 0 0) (by first | (simp; done) | fail) (by first | (simp; done) | fail) (by first | (simp; done) | fail)) | (refine step_app rowInts rfl _ _ rfl (w2.heap.size) (.slice none 0 0) 0 [] rfl (own_new _ _ _ _) B1 m1 d1 (xs.map (Value.int .i64)) rfl (ints_src (HB1.out _ ((by repeat (first | assumption | exact Ext.refl _ | refine Ext.alloc ?_ _ | refine Ext.drew ?_ | refine Ext.drewN ?_ _ | refine Ext.setCell ?_ (by first | (simp; done) | omega | (simp; omega)) _ | refine Ext.trans (by assumption) ?_))))) (by omega) (by first | (simp; done) | (simp; omega)) ?_; intro v3 w3 hown3 hg3 hat3; rw [Nat.zero_add, List.nil_append] at hown3; have x3 : Ext w2 w3 := Ext.grown ((by repeat (first | assumption | exact Ext.refl _ | refine Ext.alloc ?_ _ | refine Ext.drew ?_ | refine Ext.drewN ?_ _ | refine Ext.setCell ?_ (by first | (simp; done) | omega | (simp; omega)) _ | refine Ext.trans (by assumption) ?_))) hg3 (by intro k hk; exact absurd hk (by simp [Value.ownBlock])); have z3 := x3.size; have r03 := x3.cell r0; have r13 := x3.cell r1; have n3' := World.new_ne w3 _ r03; simp only at n3') | (refine step_app rowInts rfl _ _ rfl _ v3 m1 (xs.map (Value.int .i64)) rfl (hown3.alloc _) B2 m2 d2 (ys.map (Value.int .i64)) rfl (ints_src (HB2.out _ ((by repeat (first | assumption | exact Ext.refl _ | refine Ext.alloc ?_ _ | refine Ext.drew ?_ | refine Ext.drewN ?_ _ | refine Ext.setCell ?_ (by first | (simp; done) | omega | (simp; omega)) _ | refine Ext.trans (by assumption) ?_))))) (by omega) (by first | omega | (simp; omega)) ?_; intro v4 w4 hown4 hg4 hat4; have x4 : Ext w2 w4 := Ext.grown ((by repeat (first | assumption | exact Ext.refl _ | refine Ext.alloc ?_ _ | refine Ext.drew ?_ | refine Ext.drewN ?_ _ | refine Ext.setCell ?_ (by first | (simp; done) | omega | (simp; omega)) _ | refine Ext.trans (by assumption) ?_))) hg4 (fun k hk => by have := own_from hown3 k hk; omega); have z4 := x4.size; have r04 := x4.cell r0; have r14 := x4.cell r1; have n4' := World.new_ne w4 _ r04; simp only at n4'; obtain ⟨d0, d1', df⟩ := box_grown hg4 (B := w3.heap.size) (a := .int .i64 0) (b := .slice none 0 0) (by first | (simp; done) | fail) (by first | (simp; done) | fail) (by first | (simp; done) | fail) (fun e => Nat.lt_irrefl _ (hown3.lt _ e.symm).2); obtain ⟨A4, n4, c4, rfl, I4⟩ := isInts_own (l := xs ++ ys) (by rw [List.map_append]; exact hown4) (by omega) HW.out) | (have y3' := y3; refine step_app rowInts rfl _ _ rfl _ v3 m1 (xs.map (Value.int .i64)) rfl (hown3) B2 m2 d2 (ys.map (Value.int .i64)) rfl (ints_src (HB2.out _ ((by repeat (first | assumption | exact Ext.refl _ | refine Ext.alloc ?_ _ | refine Ext.drew ?_ | refine Ext.drewN ?_ _ | refine Ext.setCell ?_ (by first | (simp; done) | omega | (simp; omega)) _ | refine Ext.trans (by assumption) ?_))))) (by omega) (by first | omega | (simp; omega)) ?_; intro v4 w4 hown4 hg4 hat4; have x4 : Ext w2 w4 := Ext.grown ((by repeat (first | assumption | exact Ext.refl _ | refine Ext.alloc ?_ _ | refine Ext.drew ?_ | refine Ext.drewN ?_ _ | refine Ext.setCell ?_ (by first | (simp; done) | omega | (simp; omega)) _ | refine Ext.trans (by assumption) ?_))) hg4 (fun k hk => by have := own_from hown3 k hk; omega); have z4 := x4.size; have r04 := x4.cell r0; have r14 := x4.cell r1; have n4' := World.new_ne w4 _ r04; simp only at n4'; have y4 := Ext.grown y3 hg4 (fun k hk => by have := own_from hown3 k hk; first | omega | (simp; omega)); obtain ⟨d04, d14, df4⟩ := y4.box2 (B := w2.heap.size) (a := .int .i64 0) (b := .slice none 0 0) (by first | (simp; done) | fail) (by first | (simp; done) | fail) (by first | (simp; done) | fail); obtain ⟨A4, n4, c4, rfl, I4⟩ := isInts_own (l := xs ++ ys) (by rw [List.map_append]; exact hown4) (by omega) HW.out) | (refine step_app rowInts rfl _ _ rfl _ v3 m1 (xs.map (Value.int .i64)) rfl (hown3) B2 m2 d2 (ys.map (Value.int .i64)) rfl (ints_src (HB2.out _ ((by repeat (first | assumption | exact Ext.refl _ | refine Ext.alloc ?_ _ | refine Ext.drew ?_ | refine Ext.drewN ?_ _ | refine Ext.setCell ?_ (by first | (simp; done) | omega | (simp; omega)) _ | refine Ext.trans (by assumption) ?_))))) (by omega) (by first | omega | (simp; omega)) ?_; intro v4 w4 hown4 hg4 hat4; have x4 : Ext w2 w4 := Ext.grown ((by repeat (first | assumption | exact Ext.refl _ | refine Ext.alloc ?_ _ | refine Ext.drew ?_ | refine Ext.drewN ?_ _ | refine Ext.setCell ?_ (by first | (simp; done) | omega | (simp; omega)) _ | refine Ext.trans (by assumption) ?_))) hg4 (fun k hk => by have := own_from hown3 k hk; omega); have z4 := x4.size; have r04 := x4.cell r0; have r14 := x4.cell r1; have n4' := World.new_ne w4 _ r04; simp only at n4'; obtain ⟨A4, n4, c4, rfl, I4⟩ := isInts_own (l := xs ++ ys) (by rw [List.map_append]; exact hown4) (by omega) HW.out) | (go_at_call 11; have d04' := d04; (with_reducible refine (ringRun_fresh A n c A4 n4 c4 cap l (xs ++ ys) _ (HA.out _ ((by repeat (first | assumption | exact Ext.refl _ | refine Ext.alloc ?_ _ | refine Ext.drew ?_ | refine Ext.drewN ?_ _ | refine Ext.setCell ?_ (by first | (simp; done) | omega | (simp; omega)) _ | refine Ext.trans (by assumption) ?_)))) (I4.ext ((by repeat (first | assumption | exact Ext.refl _ | refine Ext.alloc ?_ _ | refine Ext.drew ?_ | refine Ext.drewN ?_ _ | refine Ext.setCell ?_ (by first | (simp; done) | omega | (simp; omega)) _ | refine Ext.trans (by assumption) ?_)))) hB).mono ?_); rintro e w5 ⟨A5, n5, c5, u5, rfl, I5, f5, ⟨B5, m5, d5, rfl, J5, j5⟩, hx5⟩; have x5 : Ext w2 w5 := Ext.trans ((by repeat (first | assumption | exact Ext.refl _ | refine Ext.alloc ?_ _ | refine Ext.drew ?_ | refine Ext.drewN ?_ _ | refine Ext.setCell ?_ (by first | (simp; done) | omega | (simp; omega)) _ | refine Ext.trans (by assumption) ?_))) hx5; have z5 := x5.size; have r05 := x5.cell r0; have r15 := x5.cell r1; have rl5 := lt_of_cell r05; have e0 := hx5.cell d04; have e1 := hx5.cell d14; have ef := hx5.free d04 df4; have el := lt_of_cell e0) | (go_at_call 11; have d0' := d0; (with_reducible refine (ringRun_fresh A n c A4 n4 c4 cap l (xs ++ ys) _ (HA.out _ ((by repeat (first | assumption | exact Ext.refl _ | refine Ext.alloc ?_ _ | refine Ext.drew ?_ | refine Ext.drewN ?_ _ | refine Ext.setCell ?_ (by first | (simp; done) | omega | (simp; omega)) _ | refine Ext.trans (by assumption) ?_)))) (I4.ext ((by repeat (first | assumption | exact Ext.refl _ | refine Ext.alloc ?_ _ | refine Ext.drew ?_ | refine Ext.drewN ?_ _ | refine Ext.setCell ?_ (by first | (simp; done) | omega | (simp; omega)) _ | refine Ext.trans (by assumption) ?_)))) hB).mono ?_); rintro e w5 ⟨A5, n5, c5, u5, rfl, I5, f5, ⟨B5, m5, d5, rfl, J5, j5⟩, hx5⟩; have x5 : Ext w2 w5 := Ext.trans ((by repeat (first | assumption | exact Ext.refl _ | refine Ext.alloc ?_ _ | refine Ext.drew ?_ | refine Ext.drewN ?_ _ | refine Ext.setCell ?_ (by first | (simp; done) | omega | (simp; omega)) _ | refine Ext.trans (by assumption) ?_))) hx5; have z5 := x5.size; have r05 := x5.cell r0; have r15 := x5.cell r1; have rl5 := lt_of_cell r05; have e0 := hx5.cell d0; have e1 := hx5.cell d1'; have ef := hx5.free d0 df; have el := lt_of_cell e0) | (go_at_call 11; (with_reducible refine (ringRun_fresh A n c A4 n4 c4 cap l (xs ++ ys) _ (HA.out _ ((by repeat (first | assumption | exact Ext.refl _ | refine Ext.alloc ?_ _ | refine Ext.drew ?_ | refine Ext.drewN ?_ _ | refine Ext.setCell ?_ (by first | (simp; done) | omega | (simp; omega)) _ | refine Ext.trans (by assumption) ?_)))) (I4.ext ((Ext.refl w4).alloc _)) hB).mono ?_); rintro e w5 ⟨A5, n5, c5, u5, rfl, I5, f5, ⟨B5, m5, d5, rfl, J5, j5⟩, hx5⟩; have x5 : Ext w2 w5 := Ext.trans ((by repeat (first | assumption | exact Ext.refl _ | refine Ext.alloc ?_ _ | refine Ext.drew ?_ | refine Ext.drewN ?_ _ | refine Ext.setCell ?_ (by first | (simp; done) | omega | (simp; omega)) _ | refine Ext.trans (by assumption) ?_))) hx5; have z5 := x5.size; have r05 := x5.cell r0; have r15 := x5.cell r1; have rl5 := lt_of_cell r05; obtain ⟨e0, e1, ef⟩ := hx5.box2 (B := w4.heap.size) (a := .int .i64 0) (b := .slice none 0 0) (by simp) (by simp) (by simp); have el := lt_of_cell e0) | (go_at_call 11; (with_reducible refine (ringRun_fresh A n c A4 n4 c4 cap l (xs ++ ys) _ (HA.out _ ((by repeat (first | assumption | exact Ext.refl _ | refine Ext.alloc ?_ _ | refine Ext.drew ?_ | refine Ext.drewN ?_ _ | refine Ext.setCell ?_ (by first | (simp; done) | omega | (simp; omega)) _ | refine Ext.trans (by assumption) ?_)))) (I4.ext (Ext.refl w4)) hB).mono ?_); rintro e w5 ⟨A5, n5, c5, u5, rfl, I5, f5, ⟨B5, m5, d5, rfl, J5, j5⟩, hx5⟩; have x5 : Ext w2 w5 := Ext.trans ((by repeat (first | assumption | exact Ext.refl _ | refine Ext.alloc ?_ _ | refine Ext.drew ?_ | refine Ext.drewN ?_ _ | refine Ext.setCell ?_ (by first | (simp; done) | omega | (simp; omega)) _ | refine Ext.trans (by assumption) ?_))) hx5; have z5 := x5.size; have r05 := x5.cell r0; have r15 := x5.cell r1; have rl5 := lt_of_cell r05))
        · have s0 : (w5.alloc (.cells #[.int .i64 cap, .slice A5 n5 c5] 24)).cell? ⟨w5.heap.size, 0, none⟩ = some (.int .i64 cap) := by simp
          have s1 : (w5.alloc (.cells #[.int .i64 cap, .slice A5 n5 c5] 24)).cell? ⟨w5.heap.size, 1, none⟩ = some (.slice A5 n5 c5) := by simp
          have sf : ∀ o, (w5.alloc (.cells #[.int .i64 cap, .slice A5 n5 c5] 24)).frozen? ⟨w5.heap.size, o, none⟩ = false := by simp
          have I6 := I5.ext ((Ext.refl w5).alloc (.cells #[.int .i64 cap, .slice A5 n5 c5] 24))
          have J6 := J5.ext ((Ext.refl w5).alloc (.cells #[.int .i64 cap, .slice A5 n5 c5] 24))
          have x6 := x5.alloc (.cells #[.int .i64 cap, .slice A5 n5 c5] 24)
          replace rf := x6.free r0 rf
          replace r0 := x6.cell r0
          replace r1 := x6.cell r1
          generalize w5.alloc (.cells #[.int .i64 cap, .slice A5 n5 c5] 24) = w6 at *
          generalize w5.heap.size = sB at s0 s1 sf ⊢
          have H6 := Lib.hid (fun W (k : Ext w6 W) => I6.ext k)
          have G6 := Lib.hid (fun W (k : Ext w6 W) => J6.ext k)
          have k6 := x6
          have z6 := k6.size
          have rl := lt_of_cell r0
          have sl := lt_of_cell s0
          clear I6 J6
          go_wp2_with fail
          refine (ringRun_yes _ _ _ _ _ _ _ _ _ _ (HA.out _ ((by repeat (first | assumption | exact Ext.refl _ | refine Ext.alloc ?_ _ | refine Ext.drew ?_ | refine Ext.drewN ?_ _ | refine Ext.setCell ?_ (by first | (simp; done) | omega | (simp; omega)) _ | refine Ext.trans (by assumption) ?_)))) (HB1.out _ ((by repeat (first | assumption | exact Ext.refl _ | refine Ext.alloc ?_ _ | refine Ext.drew ?_ | refine Ext.drewN ?_ _ | refine Ext.setCell ?_ (by first | (simp; done) | omega | (simp; omega)) _ | refine Ext.trans (by assumption) ?_)))) hB).mono ?_
          rintro e w7 ⟨v7, u7, rfl, ⟨A7, n7, c7, rfl, I7⟩, ⟨B7, m7, d7, rfl, J7⟩, hx7⟩
          have k7 : Ext w6 w7 := Ext.trans ((by repeat (first | assumption | exact Ext.refl _ | refine Ext.alloc ?_ _ | refine Ext.drew ?_ | refine Ext.drewN ?_ _ | refine Ext.setCell ?_ (by first | (simp; done) | omega | (simp; omega)) _ | refine Ext.trans (by assumption) ?_))) hx7
          have z7 := k7.size
          have H7 := Lib.hid (fun W (k : Ext w7 W) => I7.ext k)
          have G7 := Lib.hid (fun W (k : Ext w7 W) => J7.ext k)
          clear I7 J7
          replace rf := k7.free r0 rf
          replace r0 := k7.cell r0
          replace r1 := k7.cell r1
          replace rl := lt_of_cell r0
          replace sf := k7.free s0 sf
          replace s0 := k7.cell s0
          replace s1 := k7.cell s1
          replace sl := lt_of_cell s0
          have hn7 : mayB cap n7 = true := by rw [← (H7.out _ (Ext.refl _)).len]; exact mayB_len hB (runS_len xs l HC.out)
          go_wp2_with fail
          refine (ringRun_yes _ _ _ _ _ _ _ _ _ _ (H7.out _ ((by repeat (first | assumption | exact Ext.refl _ | refine Ext.alloc ?_ _ | refine Ext.drew ?_ | refine Ext.drewN ?_ _ | refine Ext.setCell ?_ (by first | (simp; done) | omega | (simp; omega)) _ | refine Ext.trans (by assumption) ?_)))) (HB2.out _ ((by repeat (first | assumption | exact Ext.refl _ | refine Ext.alloc ?_ _ | refine Ext.drew ?_ | refine Ext.drewN ?_ _ | refine Ext.setCell ?_ (by first | (simp; done) | omega | (simp; omega)) _ | refine Ext.trans (by assumption) ?_)))) hn7).mono ?_
          rintro e w8 ⟨v8, u8, rfl, ⟨A8, n8, c8, rfl, I8⟩, ⟨B8, m8, d8, rfl, J8⟩, hx8⟩
          have k8 : Ext w7 w8 := Ext.trans ((by repeat (first | assumption | exact Ext.refl _ | refine Ext.alloc ?_ _ | refine Ext.drew ?_ | refine Ext.drewN ?_ _ | refine Ext.setCell ?_ (by first | (simp; done) | omega | (simp; omega)) _ | refine Ext.trans (by assumption) ?_))) hx8
          have z8 := k8.size
          have H8 := Lib.hid (fun W (k : Ext w8 W) => I8.ext k)
          have G8 := Lib.hid (fun W (k : Ext w8 W) => J8.ext k)
          clear I8 J8
          replace rf := k8.free r0 rf
          replace r0 := k8.cell r0
          replace r1 := k8.cell r1
          replace rl := lt_of_cell r0
          replace sf := k8.free s0 sf
          replace s0 := k8.cell s0
          replace s1 := k8.cell s1
          replace sl := lt_of_cell s0
          obtain ⟨t0, t1, tf⟩ := hx8.box2 (B := w7.heap.size) (a := .int .i64 cap) (b := .slice A7 n7 c7) (by simp) (by simp) (by simp)
          have tl := lt_of_cell t0
          have H8r := Lib.hid (fun W (k : Ext w8 W) => (show Ints W .i64 A8 n8 c8 (runS cap l (xs ++ ys)) by rw [runS_append]; exact H8.out W k))
          go_wp2_with fail
          refine (same_self _ _ _ _ _ _ _ _ _ (H6.out _ ((by repeat (first | assumption | exact Ext.refl _ | refine Ext.alloc ?_ _ | refine Ext.drew ?_ | refine Ext.drewN ?_ _ | refine Ext.setCell ?_ (by first | (simp; done) | omega | (simp; omega)) _ | refine Ext.trans (by assumption) ?_)))) (H8r.out _ ((by repeat (first | assumption | exact Ext.refl _ | refine Ext.alloc ?_ _ | refine Ext.drew ?_ | refine Ext.drewN ?_ _ | refine Ext.setCell ?_ (by first | (simp; done) | omega | (simp; omega)) _ | refine Ext.trans (by assumption) ?_))))).mono ?_
          rintro e w9 ⟨rfl, hx9⟩
          have k9 : Ext w8 w9 := Ext.trans ((by repeat (first | assumption | exact Ext.refl _ | refine Ext.alloc ?_ _ | refine Ext.drew ?_ | refine Ext.drewN ?_ _ | refine Ext.setCell ?_ (by first | (simp; done) | omega | (simp; omega)) _ | refine Ext.trans (by assumption) ?_))) hx9
          have z9 := k9.size
          have b7 : m7 ≤ 100 := by rw [← (G7.out _ (Ext.refl _)).len, runT_length, L1.out]; omega
          have b8 : m8 ≤ 100 := by rw [← (G8.out _ (Ext.refl _)).len, runT_length, L2.out]; omega
          clear r0 r1 rf rl s0 s1 sf sl t0 t1 tf tl
          go_wp2_with (at_builtin; refine wpList_app rowInts rfl _ _ rfl w9.heap.size (.slice none 0 0) 0 [] rfl (own_new _ _ _ _) B7 m7 d7 ((runT cap l xs).map (Value.int .i64)) rfl (ints_src (G7.out _ ((by repeat (first | assumption | exact Ext.refl _ | refine Ext.alloc ?_ _ | refine Ext.drew ?_ | refine Ext.drewN ?_ _ | refine Ext.setCell ?_ (by first | (simp; done) | omega | (simp; omega)) _ | refine Ext.trans (by assumption) ?_))))) (by omega) (by omega) ?_)
          intro v10 w10 hown10 hg10 _
          have k10 : Ext w9 w10 := Ext.grown ((by repeat (first | assumption | exact Ext.refl _ | refine Ext.alloc ?_ _ | refine Ext.drew ?_ | refine Ext.drewN ?_ _ | refine Ext.setCell ?_ (by first | (simp; done) | omega | (simp; omega)) _ | refine Ext.trans (by assumption) ?_))) hg10 (by intro k hk; exact absurd hk (by simp [Value.ownBlock]))
          have z10 := k10.size
          go_wp2_with (at_builtin; refine wpList_app rowInts rfl _ _ rfl w9.heap.size v10 m7 ((runT cap l xs).map (Value.int .i64)) rfl hown10 B8 m8 d8 ((runT cap (runS cap l xs) ys).map (Value.int .i64)) rfl (ints_src (G8.out _ ((by repeat (first | assumption | exact Ext.refl _ | refine Ext.alloc ?_ _ | refine Ext.drew ?_ | refine Ext.drewN ?_ _ | refine Ext.setCell ?_ (by first | (simp; done) | omega | (simp; omega)) _ | refine Ext.trans (by assumption) ?_))))) (by omega) (by omega) ?_)
          intro v11 w11 hown11 hg11 _
          have k11 : Ext w9 w11 := Ext.grown ((by repeat (first | assumption | exact Ext.refl _ | refine Ext.alloc ?_ _ | refine Ext.drew ?_ | refine Ext.drewN ?_ _ | refine Ext.setCell ?_ (by first | (simp; done) | omega | (simp; omega)) _ | refine Ext.trans (by assumption) ?_))) hg11 (own_from hown10)
          obtain ⟨A11, n11, c11, rfl, I11⟩ := isInts_own (l := runT cap l (xs ++ ys)) (by rw [runT_append, List.map_append]; exact hown11) (by omega) HT.out
          go_wp2_with fail
          refine (ints_self _ _ _ _ _ _ _ _ (G6.out _ ((by repeat (first | assumption | exact Ext.refl _ | refine Ext.alloc ?_ _ | refine Ext.drew ?_ | refine Ext.drewN ?_ _ | refine Ext.setCell ?_ (by first | (simp; done) | omega | (simp; omega)) _ | refine Ext.trans (by assumption) ?_)))) I11).mono ?_
          rintro e w12 ⟨rfl, hx12⟩
          go_wp2
          go_ret
          exact ⟨rfl, (by repeat (first | assumption | exact Ext.refl _ | refine Ext.alloc ?_ _ | refine Ext.drew ?_ | refine Ext.drewN ?_ _ | refine Ext.setCell ?_ (by first | (simp; done) | omega | (simp; omega)) _ | refine Ext.trans (by assumption) ?_))⟩
        · have s0 : ((w5.setCell ⟨w4.heap.size, 0, none⟩ (.int .i64 cap)).setCell ⟨w4.heap.size, 1, none⟩ (.slice A5 n5 c5)).cell? ⟨w4.heap.size, 0, none⟩ = some (.int .i64 cap) := by simp (maxDischargeDepth := 7) [go_sem, e0, e1]
          have s1 : ((w5.setCell ⟨w4.heap.size, 0, none⟩ (.int .i64 cap)).setCell ⟨w4.heap.size, 1, none⟩ (.slice A5 n5 c5)).cell? ⟨w4.heap.size, 1, none⟩ = some (.slice A5 n5 c5) := by simp (maxDischargeDepth := 7) [go_sem, e0, e1]
          have sf : ∀ o, ((w5.setCell ⟨w4.heap.size, 0, none⟩ (.int .i64 cap)).setCell ⟨w4.heap.size, 1, none⟩ (.slice A5 n5 c5)).frozen? ⟨w4.heap.size, o, none⟩ = false := by simp (maxDischargeDepth := 7) [go_sem, ef]
          have hz := hx5.size
          have I6 : Ints ((w5.setCell ⟨w4.heap.size, 0, none⟩ (.int .i64 cap)).setCell ⟨w4.heap.size, 1, none⟩ (.slice A5 n5 c5)) .i64 A5 n5 c5 (runS cap l (xs ++ ys)) := Ints.setCell (Ints.setCell I5 (fun _ ad e => by have := f5 ad e; simp at this hz ⊢; omega) _) (fun _ ad e => by have := f5 ad e; simp at this hz ⊢; omega) _
          have J6 : Ints ((w5.setCell ⟨w4.heap.size, 0, none⟩ (.int .i64 cap)).setCell ⟨w4.heap.size, 1, none⟩ (.slice A5 n5 c5)) .i64 B5 m5 d5 (runT cap l (xs ++ ys)) := Ints.setCell (Ints.setCell J5 (fun _ ad e => by have := j5 ad e; simp at this hz ⊢; omega) _) (fun _ ad e => by have := j5 ad e; simp at this hz ⊢; omega) _
          have x6 : Ext w2 ((w5.setCell ⟨w4.heap.size, 0, none⟩ (.int .i64 cap)).setCell ⟨w4.heap.size, 1, none⟩ (.slice A5 n5 c5)) := (x5.setCell (by first | (simp; done) | (simp; omega)) _).setCell (by first | (simp; done) | (simp; omega)) _
          replace rf := x6.free r0 rf
          replace r0 := x6.cell r0
          replace r1 := x6.cell r1
          generalize ((w5.setCell ⟨w4.heap.size, 0, none⟩ (.int .i64 cap)).setCell ⟨w4.heap.size, 1, none⟩ (.slice A5 n5 c5)) = w6 at *
          generalize w4.heap.size = sB at s0 s1 sf ⊢
          have H6 := Lib.hid (fun W (k : Ext w6 W) => I6.ext k)
          have G6 := Lib.hid (fun W (k : Ext w6 W) => J6.ext k)
          have k6 := x6
          have z6 := k6.size
          have rl := lt_of_cell r0
          have sl := lt_of_cell s0
          clear I6 J6
          go_wp2_with fail
          refine (ringRun_yes _ _ _ _ _ _ _ _ _ _ (HA.out _ ((by repeat (first | assumption | exact Ext.refl _ | refine Ext.alloc ?_ _ | refine Ext.drew ?_ | refine Ext.drewN ?_ _ | refine Ext.setCell ?_ (by first | (simp; done) | omega | (simp; omega)) _ | refine Ext.trans (by assumption) ?_)))) (HB1.out _ ((by repeat (first | assumption | exact Ext.refl _ | refine Ext.alloc ?_ _ | refine Ext.drew ?_ | refine Ext.drewN ?_ _ | refine Ext.setCell ?_ (by first | (simp; done) | omega | (simp; omega)) _ | refine Ext.trans (by assumption) ?_)))) hB).mono ?_
          rintro e w7 ⟨v7, u7, rfl, ⟨A7, n7, c7, rfl, I7⟩, ⟨B7, m7, d7, rfl, J7⟩, hx7⟩
          have k7 : Ext w6 w7 := Ext.trans ((by repeat (first | assumption | exact Ext.refl _ | refine Ext.alloc ?_ _ | refine Ext.drew ?_ | refine Ext.drewN ?_ _ | refine Ext.setCell ?_ (by first | (simp; done) | omega | (simp; omega)) _ | refine Ext.trans (by assumption) ?_))) hx7
          have z7 := k7.size
          have H7 := Lib.hid (fun W (k : Ext w7 W) => I7.ext k)
          have G7 := Lib.hid (fun W (k : Ext w7 W) => J7.ext k)
          clear I7 J7
          replace rf := k7.free r0 rf
          replace r0 := k7.cell r0
          replace r1 := k7.cell r1
          replace rl := lt_of_cell r0
          replace sf := k7.free s0 sf
          replace s0 := k7.cell s0
          replace s1 := k7.cell s1
          replace sl := lt_of_cell s0
          have hn7 : mayB cap n7 = true := by rw [← (H7.out _ (Ext.refl _)).len]; exact mayB_len hB (runS_len xs l HC.out)
          go_wp2_with fail
          refine (ringRun_yes _ _ _ _ _ _ _ _ _ _ (H7.out _ ((by repeat (first | assumption | exact Ext.refl _ | refine Ext.alloc ?_ _ | refine Ext.drew ?_ | refine Ext.drewN ?_ _ | refine Ext.setCell ?_ (by first | (simp; done) | omega | (simp; omega)) _ | refine Ext.trans (by assumption) ?_)))) (HB2.out _ ((by repeat (first | assumption | exact Ext.refl _ | refine Ext.alloc ?_ _ | refine Ext.drew ?_ | refine Ext.drewN ?_ _ | refine Ext.setCell ?_ (by first | (simp; done) | omega | (simp; omega)) _ | refine Ext.trans (by assumption) ?_)))) hn7).mono ?_
          rintro e w8 ⟨v8, u8, rfl, ⟨A8, n8, c8, rfl, I8⟩, ⟨B8, m8, d8, rfl, J8⟩, hx8⟩
          have k8 : Ext w7 w8 := Ext.trans ((by repeat (first | assumption | exact Ext.refl _ | refine Ext.alloc ?_ _ | refine Ext.drew ?_ | refine Ext.drewN ?_ _ | refine Ext.setCell ?_ (by first | (simp; done) | omega | (simp; omega)) _ | refine Ext.trans (by assumption) ?_))) hx8
          have z8 := k8.size
          have H8 := Lib.hid (fun W (k : Ext w8 W) => I8.ext k)
          have G8 := Lib.hid (fun W (k : Ext w8 W) => J8.ext k)
          clear I8 J8
          replace rf := k8.free r0 rf
          replace r0 := k8.cell r0
          replace r1 := k8.cell r1
          replace rl := lt_of_cell r0
          replace sf := k8.free s0 sf
          replace s0 := k8.cell s0
          replace s1 := k8.cell s1
          replace sl := lt_of_cell s0
          obtain ⟨t0, t1, tf⟩ := hx8.box2 (B := w7.heap.size) (a := .int .i64 cap) (b := .slice A7 n7 c7) (by simp) (by simp) (by simp)
          have tl := lt_of_cell t0
          have H8r := Lib.hid (fun W (k : Ext w8 W) => (show Ints W .i64 A8 n8 c8 (runS cap l (xs ++ ys)) by rw [runS_append]; exact H8.out W k))
          go_wp2_with fail
          refine (same_self _ _ _ _ _ _ _ _ _ (H6.out _ ((by repeat (first | assumption | exact Ext.refl _ | refine Ext.alloc ?_ _ | refine Ext.drew ?_ | refine Ext.drewN ?_ _ | refine Ext.setCell ?_ (by first | (simp; done) | omega | (simp; omega)) _ | refine Ext.trans (by assumption) ?_)))) (H8r.out _ ((by repeat (first | assumption | exact Ext.refl _ | refine Ext.alloc ?_ _ | refine Ext.drew ?_ | refine Ext.drewN ?_ _ | refine Ext.setCell ?_ (by first | (simp; done) | omega | (simp; omega)) _ | refine Ext.trans (by assumption) ?_))))).mono ?_
          rintro e w9 ⟨rfl, hx9⟩
          have k9 : Ext w8 w9 := Ext.trans ((by repeat (first | assumption | exact Ext.refl _ | refine Ext.alloc ?_ _ | refine Ext.drew ?_ | refine Ext.drewN ?_ _ | refine Ext.setCell ?_ (by first | (simp; done) | omega | (simp; omega)) _ | refine Ext.trans (by assumption) ?_))) hx9
          have z9 := k9.size
          have b7 : m7 ≤ 100 := by rw [← (G7.out _ (Ext.refl _)).len, runT_length, L1.out]; omega
          have b8 : m8 ≤ 100 := by rw [← (G8.out _ (Ext.refl _)).len, runT_length, L2.out]; omega
          clear r0 r1 rf rl s0 s1 sf sl t0 t1 tf tl
          go_wp2_with (at_builtin; refine wpList_app rowInts rfl _ _ rfl w9.heap.size (.slice none 0 0) 0 [] rfl (own_new _ _ _ _) B7 m7 d7 ((runT cap l xs).map (Value.int .i64)) rfl (ints_src (G7.out _ ((by repeat (first | assumption | exact Ext.refl _ | refine Ext.alloc ?_ _ | refine Ext.drew ?_ | refine Ext.drewN ?_ _ | refine Ext.setCell ?_ (by first | (simp; done) | omega | (simp; omega)) _ | refine Ext.trans (by assumption) ?_))))) (by omega) (by omega) ?_)
          intro v10 w10 hown10 hg10 _
          have k10 : Ext w9 w10 := Ext.grown ((by repeat (first | assumption | exact Ext.refl _ | refine Ext.alloc ?_ _ | refine Ext.drew ?_ | refine Ext.drewN ?_ _ | refine Ext.setCell ?_ (by first | (simp; done) | omega | (simp; omega)) _ | refine Ext.trans (by assumption) ?_))) hg10 (by intro k hk; exact absurd hk (by simp [Value.ownBlock]))
          have z10 := k10.size
          go_wp2_with (at_builtin; refine wpList_app rowInts rfl _ _ rfl w9.heap.size v10 m7 ((runT cap l xs).map (Value.int .i64)) rfl hown10 B8 m8 d8 ((runT cap (runS cap l xs) ys).map (Value.int .i64)) rfl (ints_src (G8.out _ ((by repeat (first | assumption | exact Ext.refl _ | refine Ext.alloc ?_ _ | refine Ext.drew ?_ | refine Ext.drewN ?_ _ | refine Ext.setCell ?_ (by first | (simp; done) | omega | (simp; omega)) _ | refine Ext.trans (by assumption) ?_))))) (by omega) (by omega) ?_)
          intro v11 w11 hown11 hg11 _
          have k11 : Ext w9 w11 := Ext.grown ((by repeat (first | assumption | exact Ext.refl _ | refine Ext.alloc ?_ _ | refine Ext.drew ?_ | refine Ext.drewN ?_ _ | refine Ext.setCell ?_ (by first | (simp; done) | omega | (simp; omega)) _ | refine Ext.trans (by assumption) ?_))) hg11 (own_from hown10)
          obtain ⟨A11, n11, c11, rfl, I11⟩ := isInts_own (l := runT cap l (xs ++ ys)) (by rw [runT_append, List.map_append]; exact hown11) (by omega) HT.out
          go_wp2_with fail
          refine (ints_self _ _ _ _ _ _ _ _ (G6.out _ ((by repeat (first | assumption | exact Ext.refl _ | refine Ext.alloc ?_ _ | refine Ext.drew ?_ | refine Ext.drewN ?_ _ | refine Ext.setCell ?_ (by first | (simp; done) | omega | (simp; omega)) _ | refine Ext.trans (by assumption) ?_)))) I11).mono ?_
          rintro e w12 ⟨rfl, hx12⟩
          go_wp2
          go_ret
          exact ⟨rfl, (by repeat (first | assumption | exact Ext.refl _ | refine Ext.alloc ?_ _ | refine Ext.drew ?_ | refine Ext.drewN ?_ _ | refine Ext.setCell ?_ (by first | (simp; done) | omega | (simp; omega)) _ | refine Ext.trans (by assumption) ?_))⟩
        · have dl := lt_of_cell d0
          have s0 : ((w5.setCell ⟨w3.heap.size, 0, none⟩ (.int .i64 cap)).setCell ⟨w3.heap.size, 1, none⟩ (.slice A5 n5 c5)).cell? ⟨w3.heap.size, 0, none⟩ = some (.int .i64 cap) := by simp (maxDischargeDepth := 7) [go_sem, e0, e1]
          have s1 : ((w5.setCell ⟨w3.heap.size, 0, none⟩ (.int .i64 cap)).setCell ⟨w3.heap.size, 1, none⟩ (.slice A5 n5 c5)).cell? ⟨w3.heap.size, 1, none⟩ = some (.slice A5 n5 c5) := by simp (maxDischargeDepth := 7) [go_sem, e0, e1]
          have sf : ∀ o, ((w5.setCell ⟨w3.heap.size, 0, none⟩ (.int .i64 cap)).setCell ⟨w3.heap.size, 1, none⟩ (.slice A5 n5 c5)).frozen? ⟨w3.heap.size, o, none⟩ = false := by simp (maxDischargeDepth := 7) [go_sem, ef]
          have hz := hx5.size
          have I6 : Ints ((w5.setCell ⟨w3.heap.size, 0, none⟩ (.int .i64 cap)).setCell ⟨w3.heap.size, 1, none⟩ (.slice A5 n5 c5)) .i64 A5 n5 c5 (runS cap l (xs ++ ys)) := Ints.setCell (Ints.setCell I5 (fun _ ad e => by have := f5 ad e; simp at this hz ⊢; omega) _) (fun _ ad e => by have := f5 ad e; simp at this hz ⊢; omega) _
          have J6 : Ints ((w5.setCell ⟨w3.heap.size, 0, none⟩ (.int .i64 cap)).setCell ⟨w3.heap.size, 1, none⟩ (.slice A5 n5 c5)) .i64 B5 m5 d5 (runT cap l (xs ++ ys)) := Ints.setCell (Ints.setCell J5 (fun _ ad e => by have := j5 ad e; simp at this hz ⊢; omega) _) (fun _ ad e => by have := j5 ad e; simp at this hz ⊢; omega) _
          have x6 : Ext w2 ((w5.setCell ⟨w3.heap.size, 0, none⟩ (.int .i64 cap)).setCell ⟨w3.heap.size, 1, none⟩ (.slice A5 n5 c5)) := (x5.setCell (by first | (simp; done) | (simp; omega)) _).setCell (by first | (simp; done) | (simp; omega)) _
          replace rf := x6.free r0 rf
          replace r0 := x6.cell r0
          replace r1 := x6.cell r1
          generalize ((w5.setCell ⟨w3.heap.size, 0, none⟩ (.int .i64 cap)).setCell ⟨w3.heap.size, 1, none⟩ (.slice A5 n5 c5)) = w6 at *
          generalize w3.heap.size = sB at s0 s1 sf ⊢
          have H6 := Lib.hid (fun W (k : Ext w6 W) => I6.ext k)
          have G6 := Lib.hid (fun W (k : Ext w6 W) => J6.ext k)
          have k6 := x6
          have z6 := k6.size
          have rl := lt_of_cell r0
          have sl := lt_of_cell s0
          clear I6 J6
          go_wp2_with fail
          refine (ringRun_yes _ _ _ _ _ _ _ _ _ _ (HA.out _ ((by repeat (first | assumption | exact Ext.refl _ | refine Ext.alloc ?_ _ | refine Ext.drew ?_ | refine Ext.drewN ?_ _ | refine Ext.setCell ?_ (by first | (simp; done) | omega | (simp; omega)) _ | refine Ext.trans (by assumption) ?_)))) (HB1.out _ ((by repeat (first | assumption | exact Ext.refl _ | refine Ext.alloc ?_ _ | refine Ext.drew ?_ | refine Ext.drewN ?_ _ | refine Ext.setCell ?_ (by first | (simp; done) | omega | (simp; omega)) _ | refine Ext.trans (by assumption) ?_)))) hB).mono ?_
          rintro e w7 ⟨v7, u7, rfl, ⟨A7, n7, c7, rfl, I7⟩, ⟨B7, m7, d7, rfl, J7⟩, hx7⟩
          have k7 : Ext w6 w7 := Ext.trans ((by repeat (first | assumption | exact Ext.refl _ | refine Ext.alloc ?_ _ | refine Ext.drew ?_ | refine Ext.drewN ?_ _ | refine Ext.setCell ?_ (by first | (simp; done) | omega | (simp; omega)) _ | refine Ext.trans (by assumption) ?_))) hx7
          have z7 := k7.size
          have H7 := Lib.hid (fun W (k : Ext w7 W) => I7.ext k)
          have G7 := Lib.hid (fun W (k : Ext w7 W) => J7.ext k)
          clear I7 J7
          replace rf := k7.free r0 rf
          replace r0 := k7.cell r0
          replace r1 := k7.cell r1
          replace rl := lt_of_cell r0
          replace sf := k7.free s0 sf
          replace s0 := k7.cell s0
          replace s1 := k7.cell s1
          replace sl := lt_of_cell s0
          have hn7 : mayB cap n7 = true := by rw [← (H7.out _ (Ext.refl _)).len]; exact mayB_len hB (runS_len xs l HC.out)
          go_wp2_with fail
          refine (ringRun_yes _ _ _ _ _ _ _ _ _ _ (H7.out _ ((by repeat (first | assumption | exact Ext.refl _ | refine Ext.alloc ?_ _ | refine Ext.drew ?_ | refine Ext.drewN ?_ _ | refine Ext.setCell ?_ (by first | (simp; done) | omega | (simp; omega)) _ | refine Ext.trans (by assumption) ?_)))) (HB2.out _ ((by repeat (first | assumption | exact Ext.refl _ | refine Ext.alloc ?_ _ | refine Ext.drew ?_ | refine Ext.drewN ?_ _ | refine Ext.setCell ?_ (by first | (simp; done) | omega | (simp; omega)) _ | refine Ext.trans (by assumption) ?_)))) hn7).mono ?_
          rintro e w8 ⟨v8, u8, rfl, ⟨A8, n8, c8, rfl, I8⟩, ⟨B8, m8, d8, rfl, J8⟩, hx8⟩
          have k8 : Ext w7 w8 := Ext.trans ((by repeat (first | assumption | exact Ext.refl _ | refine Ext.alloc ?_ _ | refine Ext.drew ?_ | refine Ext.drewN ?_ _ | refine Ext.setCell ?_ (by first | (simp; done) | omega | (simp; omega)) _ | refine Ext.trans (by assumption) ?_))) hx8
          have z8 := k8.size
          have H8 := Lib.hid (fun W (k : Ext w8 W) => I8.ext k)
          have G8 := Lib.hid (fun W (k : Ext w8 W) => J8.ext k)
          clear I8 J8
          replace rf := k8.free r0 rf
          replace r0 := k8.cell r0
          replace r1 := k8.cell r1
          replace rl := lt_of_cell r0
          replace sf := k8.free s0 sf
          replace s0 := k8.cell s0
          replace s1 := k8.cell s1
          replace sl := lt_of_cell s0
          obtain ⟨t0, t1, tf⟩ := hx8.box2 (B := w7.heap.size) (a := .int .i64 cap) (b := .slice A7 n7 c7) (by simp) (by simp) (by simp)
          have tl := lt_of_cell t0
          have H8r := Lib.hid (fun W (k : Ext w8 W) => (show Ints W .i64 A8 n8 c8 (runS cap l (xs ++ ys)) by rw [runS_append]; exact H8.out W k))
          go_wp2_with fail
          refine (same_self _ _ _ _ _ _ _ _ _ (H6.out _ ((by repeat (first | assumption | exact Ext.refl _ | refine Ext.alloc ?_ _ | refine Ext.drew ?_ | refine Ext.drewN ?_ _ | refine Ext.setCell ?_ (by first | (simp; done) | omega | (simp; omega)) _ | refine Ext.trans (by assumption) ?_)))) (H8r.out _ ((by repeat (first | assumption | exact Ext.refl _ | refine Ext.alloc ?_ _ | refine Ext.drew ?_ | refine Ext.drewN ?_ _ | refine Ext.setCell ?_ (by first | (simp; done) | omega | (simp; omega)) _ | refine Ext.trans (by assumption) ?_))))).mono ?_
          rintro e w9 ⟨rfl, hx9⟩
          have k9 : Ext w8 w9 := Ext.trans ((by repeat (first | assumption | exact Ext.refl _ | refine Ext.alloc ?_ _ | refine Ext.drew ?_ | refine Ext.drewN ?_ _ | refine Ext.setCell ?_ (by first | (simp; done) | omega | (simp; omega)) _ | refine Ext.trans (by assumption) ?_))) hx9
          have z9 := k9.size
          have b7 : m7 ≤ 100 := by rw [← (G7.out _ (Ext.refl _)).len, runT_length, L1.out]; omega
          have b8 : m8 ≤ 100 := by rw [← (G8.out _ (Ext.refl _)).len, runT_length, L2.out]; omega
          clear r0 r1 rf rl s0 s1 sf sl t0 t1 tf tl
          go_wp2_with (at_builtin; refine wpList_app rowInts rfl _ _ rfl w9.heap.size (.slice none 0 0) 0 [] rfl (own_new _ _ _ _) B7 m7 d7 ((runT cap l xs).map (Value.int .i64)) rfl (ints_src (G7.out _ ((by repeat (first | assumption | exact Ext.refl _ | refine Ext.alloc ?_ _ | refine Ext.drew ?_ | refine Ext.drewN ?_ _ | refine Ext.setCell ?_ (by first | (simp; done) | omega | (simp; omega)) _ | refine Ext.trans (by assumption) ?_))))) (by omega) (by omega) ?_)
          intro v10 w10 hown10 hg10 _
          have k10 : Ext w9 w10 := Ext.grown ((by repeat (first | assumption | exact Ext.refl _ | refine Ext.alloc ?_ _ | refine Ext.drew ?_ | refine Ext.drewN ?_ _ | refine Ext.setCell ?_ (by first | (simp; done) | omega | (simp; omega)) _ | refine Ext.trans (by assumption) ?_))) hg10 (by intro k hk; exact absurd hk (by simp [Value.ownBlock]))
          have z10 := k10.size
          go_wp2_with (at_builtin; refine wpList_app rowInts rfl _ _ rfl w9.heap.size v10 m7 ((runT cap l xs).map (Value.int .i64)) rfl hown10 B8 m8 d8 ((runT cap (runS cap l xs) ys).map (Value.int .i64)) rfl (ints_src (G8.out _ ((by repeat (first | assumption | exact Ext.refl _ | refine Ext.alloc ?_ _ | refine Ext.drew ?_ | refine Ext.drewN ?_ _ | refine Ext.setCell ?_ (by first | (simp; done) | omega | (simp; omega)) _ | refine Ext.trans (by assumption) ?_))))) (by omega) (by omega) ?_)
          intro v11 w11 hown11 hg11 _
          have k11 : Ext w9 w11 := Ext.grown ((by repeat (first | assumption | exact Ext.refl _ | refine Ext.alloc ?_ _ | refine Ext.drew ?_ | refine Ext.drewN ?_ _ | refine Ext.setCell ?_ (by first | (simp; done) | omega | (simp; omega)) _ | refine Ext.trans (by assumption) ?_))) hg11 (own_from hown10)
          obtain ⟨A11, n11, c11, rfl, I11⟩ := isInts_own (l := runT cap l (xs ++ ys)) (by rw [runT_append, List.map_append]; exact hown11) (by omega) HT.out
          go_wp2_with fail
          refine (ints_self _ _ _ _ _ _ _ _ (G6.out _ ((by repeat (first | assumption | exact Ext.refl _ | refine Ext.alloc ?_ _ | refine Ext.drew ?_ | refine Ext.drewN ?_ _ | refine Ext.setCell ?_ (by first | (simp; done) | omega | (simp; omega)) _ | refine Ext.trans (by assumption) ?_)))) I11).mono ?_
          rintro e w12 ⟨rfl, hx12⟩
          go_wp2
          go_ret
          exact ⟨rfl, (by repeat (first | assumption | exact Ext.refl _ | refine Ext.alloc ?_ _ | refine Ext.drew ?_ | refine Ext.drewN ?_ _ | refine Ext.setCell ?_ (by first | (simp; done) | omega | (simp; omega)) _ | refine Ext.trans (by assumption) ?_))⟩
        · have dl := lt_of_cell d04
          have s0 : ((w5.setCell ⟨w2.heap.size, 0, none⟩ (.int .i64 cap)).setCell ⟨w2.heap.size, 1, none⟩ (.slice A5 n5 c5)).cell? ⟨w2.heap.size, 0, none⟩ = some (.int .i64 cap) := by simp (maxDischargeDepth := 7) [go_sem, e0, e1]
          have s1 : ((w5.setCell ⟨w2.heap.size, 0, none⟩ (.int .i64 cap)).setCell ⟨w2.heap.size, 1, none⟩ (.slice A5 n5 c5)).cell? ⟨w2.heap.size, 1, none⟩ = some (.slice A5 n5 c5) := by simp (maxDischargeDepth := 7) [go_sem, e0, e1]
          have sf : ∀ o, ((w5.setCell ⟨w2.heap.size, 0, none⟩ (.int .i64 cap)).setCell ⟨w2.heap.size, 1, none⟩ (.slice A5 n5 c5)).frozen? ⟨w2.heap.size, o, none⟩ = false := by simp (maxDischargeDepth := 7) [go_sem, ef]
          have hz := hx5.size
          have I6 : Ints ((w5.setCell ⟨w2.heap.size, 0, none⟩ (.int .i64 cap)).setCell ⟨w2.heap.size, 1, none⟩ (.slice A5 n5 c5)) .i64 A5 n5 c5 (runS cap l (xs ++ ys)) := Ints.setCell (Ints.setCell I5 (fun _ ad e => by have := f5 ad e; simp at this hz ⊢; omega) _) (fun _ ad e => by have := f5 ad e; simp at this hz ⊢; omega) _
          have J6 : Ints ((w5.setCell ⟨w2.heap.size, 0, none⟩ (.int .i64 cap)).setCell ⟨w2.heap.size, 1, none⟩ (.slice A5 n5 c5)) .i64 B5 m5 d5 (runT cap l (xs ++ ys)) := Ints.setCell (Ints.setCell J5 (fun _ ad e => by have := j5 ad e; simp at this hz ⊢; omega) _) (fun _ ad e => by have := j5 ad e; simp at this hz ⊢; omega) _
          have x6 : Ext w2 ((w5.setCell ⟨w2.heap.size, 0, none⟩ (.int .i64 cap)).setCell ⟨w2.heap.size, 1, none⟩ (.slice A5 n5 c5)) := (x5.setCell (by first | (simp; done) | (simp; omega)) _).setCell (by first | (simp; done) | (simp; omega)) _
          replace rf := x6.free r0 rf
          replace r0 := x6.cell r0
          replace r1 := x6.cell r1
          generalize ((w5.setCell ⟨w2.heap.size, 0, none⟩ (.int .i64 cap)).setCell ⟨w2.heap.size, 1, none⟩ (.slice A5 n5 c5)) = w6 at *
          generalize w2.heap.size = sB at s0 s1 sf ⊢
          have H6 := Lib.hid (fun W (k : Ext w6 W) => I6.ext k)
          have G6 := Lib.hid (fun W (k : Ext w6 W) => J6.ext k)
          have k6 := x6
          have z6 := k6.size
          have rl := lt_of_cell r0
          have sl := lt_of_cell s0
          clear I6 J6
          go_wp2_with fail
          refine (ringRun_yes _ _ _ _ _ _ _ _ _ _ (HA.out _ ((by repeat (first | assumption | exact Ext.refl _ | refine Ext.alloc ?_ _ | refine Ext.drew ?_ | refine Ext.drewN ?_ _ | refine Ext.setCell ?_ (by first | (simp; done) | omega | (simp; omega)) _ | refine Ext.trans (by assumption) ?_)))) (HB1.out _ ((by repeat (first | assumption | exact Ext.refl _ | refine Ext.alloc ?_ _ | refine Ext.drew ?_ | refine Ext.drewN ?_ _ | refine Ext.setCell ?_ (by first | (simp; done) | omega | (simp; omega)) _ | refine Ext.trans (by assumption) ?_)))) hB).mono ?_
          rintro e w7 ⟨v7, u7, rfl, ⟨A7, n7, c7, rfl, I7⟩, ⟨B7, m7, d7, rfl, J7⟩, hx7⟩
          have k7 : Ext w6 w7 := Ext.trans ((by repeat (first | assumption | exact Ext.refl _ | refine Ext.alloc ?_ _ | refine Ext.drew ?_ | refine Ext.drewN ?_ _ | refine Ext.setCell ?_ (by first | (simp; done) | omega | (simp; omega)) _ | refine Ext.trans (by assumption) ?_))) hx7
          have z7 := k7.size
          have H7 := Lib.hid (fun W (k : Ext w7 W) => I7.ext k)
          have G7 := Lib.hid (fun W (k : Ext w7 W) => J7.ext k)
          clear I7 J7
          replace rf := k7.free r0 rf
          replace r0 := k7.cell r0
          replace r1 := k7.cell r1
          replace rl := lt_of_cell r0
          replace sf := k7.free s0 sf
          replace s0 := k7.cell s0
          replace s1 := k7.cell s1
          replace sl := lt_of_cell s0
          have hn7 : mayB cap n7 = true := by rw [← (H7.out _ (Ext.refl _)).len]; exact mayB_len hB (runS_len xs l HC.out)
          go_wp2_with fail
          refine (ringRun_yes _ _ _ _ _ _ _ _ _ _ (H7.out _ ((by repeat (first | assumption | exact Ext.refl _ | refine Ext.alloc ?_ _ | refine Ext.drew ?_ | refine Ext.drewN ?_ _ | refine Ext.setCell ?_ (by first | (simp; done) | omega | (simp; omega)) _ | refine Ext.trans (by assumption) ?_)))) (HB2.out _ ((by repeat (first | assumption | exact Ext.refl _ | refine Ext.alloc ?_ _ | refine Ext.drew ?_ | refine Ext.drewN ?_ _ | refine Ext.setCell ?_ (by first | (simp; done) | omega | (simp; omega)) _ | refine Ext.trans (by assumption) ?_)))) hn7).mono ?_
          rintro e w8 ⟨v8, u8, rfl, ⟨A8, n8, c8, rfl, I8⟩, ⟨B8, m8, d8, rfl, J8⟩, hx8⟩
          have k8 : Ext w7 w8 := Ext.trans ((by repeat (first | assumption | exact Ext.refl _ | refine Ext.alloc ?_ _ | refine Ext.drew ?_ | refine Ext.drewN ?_ _ | refine Ext.setCell ?_ (by first | (simp; done) | omega | (simp; omega)) _ | refine Ext.trans (by assumption) ?_))) hx8
          have z8 := k8.size
          have H8 := Lib.hid (fun W (k : Ext w8 W) => I8.ext k)
          have G8 := Lib.hid (fun W (k : Ext w8 W) => J8.ext k)
          clear I8 J8
          replace rf := k8.free r0 rf
          replace r0 := k8.cell r0
          replace r1 := k8.cell r1
          replace rl := lt_of_cell r0
          replace sf := k8.free s0 sf
          replace s0 := k8.cell s0
          replace s1 := k8.cell s1
          replace sl := lt_of_cell s0
          obtain ⟨t0, t1, tf⟩ := hx8.box2 (B := w7.heap.size) (a := .int .i64 cap) (b := .slice A7 n7 c7) (by simp) (by simp) (by simp)
          have tl := lt_of_cell t0
          have H8r := Lib.hid (fun W (k : Ext w8 W) => (show Ints W .i64 A8 n8 c8 (runS cap l (xs ++ ys)) by rw [runS_append]; exact H8.out W k))
          go_wp2_with fail
          refine (same_self _ _ _ _ _ _ _ _ _ (H6.out _ ((by repeat (first | assumption | exact Ext.refl _ | refine Ext.alloc ?_ _ | refine Ext.drew ?_ | refine Ext.drewN ?_ _ | refine Ext.setCell ?_ (by first | (simp; done) | omega | (simp; omega)) _ | refine Ext.trans (by assumption) ?_)))) (H8r.out _ ((by repeat (first | assumption | exact Ext.refl _ | refine Ext.alloc ?_ _ | refine Ext.drew ?_ | refine Ext.drewN ?_ _ | refine Ext.setCell ?_ (by first | (simp; done) | omega | (simp; omega)) _ | refine Ext.trans (by assumption) ?_))))).mono ?_
          rintro e w9 ⟨rfl, hx9⟩
          have k9 : Ext w8 w9 := Ext.trans ((by repeat (first | assumption | exact Ext.refl _ | refine Ext.alloc ?_ _ | refine Ext.drew ?_ | refine Ext.drewN ?_ _ | refine Ext.setCell ?_ (by first | (simp; done) | omega | (simp; omega)) _ | refine Ext.trans (by assumption) ?_))) hx9
          have z9 := k9.size
          have b7 : m7 ≤ 100 := by rw [← (G7.out _ (Ext.refl _)).len, runT_length, L1.out]; omega
          have b8 : m8 ≤ 100 := by rw [← (G8.out _ (Ext.refl _)).len, runT_length, L2.out]; omega
          clear r0 r1 rf rl s0 s1 sf sl t0 t1 tf tl
          go_wp2_with (at_builtin; refine wpList_app rowInts rfl _ _ rfl w9.heap.size (.slice none 0 0) 0 [] rfl (own_new _ _ _ _) B7 m7 d7 ((runT cap l xs).map (Value.int .i64)) rfl (ints_src (G7.out _ ((by repeat (first | assumption | exact Ext.refl _ | refine Ext.alloc ?_ _ | refine Ext.drew ?_ | refine Ext.drewN ?_ _ | refine Ext.setCell ?_ (by first | (simp; done) | omega | (simp; omega)) _ | refine Ext.trans (by assumption) ?_))))) (by omega) (by omega) ?_)
          intro v10 w10 hown10 hg10 _
          have k10 : Ext w9 w10 := Ext.grown ((by repeat (first | assumption | exact Ext.refl _ | refine Ext.alloc ?_ _ | refine Ext.drew ?_ | refine Ext.drewN ?_ _ | refine Ext.setCell ?_ (by first | (simp; done) | omega | (simp; omega)) _ | refine Ext.trans (by assumption) ?_))) hg10 (by intro k hk; exact absurd hk (by simp [Value.ownBlock]))
          have z10 := k10.size
          go_wp2_with (at_builtin; refine wpList_app rowInts rfl _ _ rfl w9.heap.size v10 m7 ((runT cap l xs).map (Value.int .i64)) rfl hown10 B8 m8 d8 ((runT cap (runS cap l xs) ys).map (Value.int .i64)) rfl (ints_src (G8.out _ ((by repeat (first | assumption | exact Ext.refl _ | refine Ext.alloc ?_ _ | refine Ext.drew ?_ | refine Ext.drewN ?_ _ | refine Ext.setCell ?_ (by first | (simp; done) | omega | (simp; omega)) _ | refine Ext.trans (by assumption) ?_))))) (by omega) (by omega) ?_)
          intro v11 w11 hown11 hg11 _
          have k11 : Ext w9 w11 := Ext.grown ((by repeat (first | assumption | exact Ext.refl _ | refine Ext.alloc ?_ _ | refine Ext.drew ?_ | refine Ext.drewN ?_ _ | refine Ext.setCell ?_ (by first | (simp; done) | omega | (simp; omega)) _ | refine Ext.trans (by assumption) ?_))) hg11 (own_from hown10)
          obtain ⟨A11, n11, c11, rfl, I11⟩ := isInts_own (l := runT cap l (xs ++ ys)) (by rw [runT_append, List.map_append]; exact hown11) (by omega) HT.out
          go_wp2_with fail
          refine (ints_self _ _ _ _ _ _ _ _ (G6.out _ ((by repeat (first | assumption | exact Ext.refl _ | refine Ext.alloc ?_ _ | refine Ext.drew ?_ | refine Ext.drewN ?_ _ | refine Ext.setCell ?_ (by first | (simp; done) | omega | (simp; omega)) _ | refine Ext.trans (by assumption) ?_)))) I11).mono ?_
          rintro e w12 ⟨rfl, hx12⟩
          go_wp2
          go_ret
          exact ⟨rfl, (by repeat (first | assumption | exact Ext.refl _ | refine Ext.alloc ?_ _ | refine Ext.drew ?_ | refine Ext.drewN ?_ _ | refine Ext.setCell ?_ (by first | (simp; done) | omega | (simp; omega)) _ | refine Ext.trans (by assumption) ?_))⟩
set_option maxRecDepth 100000 in
theorem RingParts_lifted (os : Os) (started : os.Started) (H : Type) (enc : TypeId × Value → H) :
    ReturnsInHanded {} Try.checked os 4 .any (Rows.ringPartsSpec.pre6 enc Try.prog Try.f4 Rows.ringPartsRow.domain false) (Rows.ringPartsSpec.post enc Try.prog Try.f4 false true false false) := by
  refine returnsInHanded_of_change_sized (C := Try.checked) own started (by kernel_rfl) Try.func4
    (ChangeSpec.witness6 (enc := enc) (C := Try.checked) false ⟨#[], #[.agg #[.int .i64 0, .slice none 0 0], .slice none 0 0, .slice none 0 0], []⟩ 8 (by kernel_rfl) (by kernel_rfl) (by kernel_rfl) (by kernel_rfl)) ?_
  intro W base args ds gs before hval0 hW _hcnd hsz0 _
  have hval : ∀ (j : Nat) t v, Try.f4.params[j]? = some t → args[j]? = some v → Value.okWide Try.prog W .any base t v := hval0
  have hsz : (DataW.weightsEach Try.prog (Try.f4.params.toList ++ Rows.ringPartsSpec.plain.varTypes Try.prog) (ds ++ gs)).all (· ≤ reachBytes) = true := hsz0
  have hW' := hW
  obtain ⟨p, q, hA0, hV, rfl, hfz, hnd⟩ := hW
  have hA : DataW.TrodAll enc Try.prog W 0 (fun _ => true) true Try.f4.params.toList args.toList ds p := hA0
  rw [Try.params4] at hA hval hsz
  obtain ⟨v0, vs0, d0, ds0, p0, q0, hargs, rfl, rfl, h0, r0⟩ := trodAll_cons hA
  obtain ⟨v1, vs1, d1, ds1, p1, q1, rfl, rfl, rfl, h1, r1⟩ := trodAll_cons r0
  obtain ⟨v2, vs2, d2, ds2, p2, q2, rfl, rfl, rfl, h2, r2⟩ := trodAll_cons r1
  obtain ⟨rfl, rfl, rfl⟩ := trodAll_nil r2
  obtain rfl : args = #[v0, v1, v2] := by cases args; simp_all
  obtain ⟨rfl, rfl⟩ := trodVars_none hV
  have h0k := h0
  have h1k := h1
  have h2k := h2
  have hlt0 : ∀ x ∈ p0, x.block < W.heap.size := fun x hx => by have := hW'.lt x (by simp [hx]); simpa using this
  have hlt1 : ∀ x ∈ p1, x.block < W.heap.size := fun x hx => by have := hW'.lt x (by simp [hx]); simpa using this
  have hlt2 : ∀ x ∈ p2, x.block < W.heap.size := fun x hx => by have := hW'.lt x (by simp [hx]); simpa using this
  obtain ⟨rk, r, rA, rn, rc, hkr, rfl, hr⟩ := open_Ring Try.underlying24 (by kernel_rfl) (by kernel_rfl) Try.underlying3 Try.underlying22 Try.underlying3 (by kernel_rfl) (by kernel_rfl) (hval 0 24 v0 rfl rfl) h0 hsz (j := 0) rfl rfl
  obtain ⟨x, xA, xn, xc, rfl, hx⟩ := open_Ints Try.underlying22 Try.underlying3 (by kernel_rfl) (by kernel_rfl) (hval 1 22 v1 rfl rfl) h1 hsz (j := 1) rfl rfl
  obtain ⟨y, yA, yn, yc, rfl, hy⟩ := open_Ints Try.underlying22 Try.underlying3 (by kernel_rfl) (by kernel_rfl) (hval 2 22 v2 rfl rfl) h2 hsz (j := 2) rfl rfl
  clear hA0 hval0
  simp only [List.append_nil] at hW'
  refine (RingParts_walk rA rn rc rk r hkr hr xA xn xc x hx yA yn yc y hy (w := W)).mono fun e W' ⟨he, hg⟩ => ?_
  subst he
  exact ⟨_, rfl, post_law (pa := p0 ++ (p1 ++ (p2 ++ []))) (pv := []) hW' (fun _ _ _ => (trodAll_cons_mk (shut_bool Try.underlying4 _) trodAll_mk0))
    (trodAll_cons_mk (Below.trod laidOut (by kernel_rfl) (of_decide_eq_true (by kernel_rfl)) h0k hg.out hlt0) (trodAll_cons_mk (Below.trod laidOut (by kernel_rfl) (of_decide_eq_true (by kernel_rfl)) h1k hg.out hlt1) (trodAll_cons_mk (Below.trod laidOut (by kernel_rfl) (of_decide_eq_true (by kernel_rfl)) h2k hg.out hlt2) trodAll_mk0))) rfl (by simp) hg⟩
theorem RingParts_holds : Rows.RingPartsSaid :=
  OpenClaim.holds_of_wide 4 Try.f4 rfl rfl rfl rfl rfl rfl rfl ⟨rfl, rfl, rfl, rfl, rfl⟩ rfl rfl rfl rfl rfl (by kernel_rfl) Try.func4 (by kernel_rfl)
    (of_decide_eq_true (by kernel_rfl)) (by unfold Func.isWrapper; first | (rw [if_pos (by decide +kernel)]; kernel_rfl) | (rw [if_neg (by decide +kernel)]; exact ⟨rfl, rfl⟩))
    (fun os started H enc _ => RingParts_lifted os started H enc)
#print axioms RingParts_holds
end Go.Proofs.Ytpggilainapoaaa
