/- Layer 4: what all laws begin with: the chapter's example holds. -/
import Derived.Test.YtpggilainapoaaaRingRefRun
namespace Go.Proofs.Ytpggilainapoaaa
open Go.RowKit
set_option linter.unusedVariables false
set_option linter.unusedSimpArgs false


theorem ringRun_any (A : Option Addr) (n c : Nat) (B : Option Addr) (m d : Nat) (cap : Int) (l xs : List Int) (w : World) (h : Ints w .i64 A n c l) (g : Ints w .i64 B m d xs) :
    Calls Try.prog 11 #[.agg #[.int .i64 cap, .slice A n c], .slice B m d] w fun e w' => ∃ v u, e = .returned (.tuple #[v, u]) ∧ IsRingV w' v cap (runRS cap l xs) ∧ IsInts w' .i64 u (runRT cap l xs) ∧ Ext w w' := by
  have hl := h.len
  cases hB : mayB cap n with
  | false =>
    rw [show runRS cap l xs = l by unfold runRS; rw [hl, hB]; rfl, show runRT cap l xs = [] by unfold runRT; rw [hl, hB]; rfl]
    exact ringRun_no A n c B m d cap l w h hB
  | true =>
    rw [show runRS cap l xs = runS cap l xs by unfold runRS; rw [hl, hB]; rfl, show runRT cap l xs = runT cap l xs by unfold runRT; rw [hl, hB]; rfl]
    exact ringRun_yes A n c B m d cap l xs w h g hB
theorem ringNew_one (w : World) : Calls Try.prog 14 #[.int .i64 1] w fun e w' => ∃ v, e = .returned (.tuple #[v, .bool true]) ∧ IsRingV w' v 1 [] ∧ Ext w w' := by
  have h := new_any 1 w
  rw [show newB 1 = true by decide, show newR 1 = 1 by decide] at h
  exact h
theorem ringRun_one (A : Option Addr) (n c : Nat) (B : Option Addr) (m d : Nat) (w : World) (h : Ints w .i64 A n c []) (g : Ints w .i64 B m d [5, 6, -1, -1]) :
    Calls Try.prog 11 #[.agg #[.int .i64 1, .slice A n c], .slice B m d] w fun e w' => ∃ v u, e = .returned (.tuple #[v, u]) ∧ IsRingV w' v 1 [] ∧ IsInts w' .i64 u [1, 0, 5, -1] ∧ Ext w w' := by
  have k := ringRun_any A n c B m d 1 [] [5, 6, -1, -1] w h g
  rw [show runRS 1 [] [5, 6, -1, -1] = [] by decide, show runRT 1 [] [5, 6, -1, -1] = [1, 0, 5, -1] by decide] at k
  exact k
theorem ints_one (A : Option Addr) (n c : Nat) (B : Option Addr) (m d : Nat) (w : World) (h : Ints w .i64 A n c [1, 0, 5, -1]) (g : Ints w .i64 B m d [1, 0, 5, -1]) :
    Calls Try.prog 12 #[.slice A n c, .slice B m d] w fun e w' => e = .returned (.bool true) ∧ Ext w w' := by
  have k := intsEq_any A n c B m d _ _ w h g
  rw [show eqI [1, 0, 5, -1] [1, 0, 5, -1] = true by decide] at k
  exact k
theorem may_one (A : Option Addr) (n c : Nat) (hn : n = 0) (w : World) : Calls Try.prog 10 #[.agg #[.int .i64 1, .slice A n c]] w fun e w' => e = .returned (.bool true) ∧ Ext w w' := by
  have k := may_any A n c 1 w
  subst hn
  rw [show mayB 1 0 = true by decide] at k
  exact k
set_option maxHeartbeats 4000000 in
theorem awake_any (w : World) : Calls Try.prog 9 #[] w fun e w' => e = .returned (.bool true) ∧ Ext w w' := by
  go_enter Try.func9, Try.ntmps9
  go_wp2_with fail
  refine (ringNew_one _).mono ?_
  rintro e w1 ⟨v1, rfl, ⟨A1, n1, c1, rfl, I1⟩, k1⟩
  have z1 := k1.size
  have H1 := Lib.hid (fun W (k : Ext w1 W) => I1.ext k)
  clear I1
  go_wp2_with fail
  refine (ringRun_one _ _ _ _ _ _ _ (H1.out _ ((by repeat (first | assumption | exact Ext.refl _ | refine Ext.alloc ?_ _ | refine Ext.drew ?_ | refine Ext.drewN ?_ _ | refine Ext.setCell ?_ (by first | (simp; done) | omega | (simp; omega)) _ | refine Ext.trans (by assumption) ?_)))) (ints_at' [5, 6, -1, -1] (by decide) (by decide) (by simp))).mono ?_
  rintro e w2 ⟨v2, u2, rfl, ⟨A2, n2, c2, rfl, I2⟩, ⟨A3, n3, c3, rfl, I3⟩, hx2⟩
  have k2 : Ext w1 w2 := Ext.trans ((by repeat (first | assumption | exact Ext.refl _ | refine Ext.alloc ?_ _ | refine Ext.drew ?_ | refine Ext.drewN ?_ _ | refine Ext.setCell ?_ (by first | (simp; done) | omega | (simp; omega)) _ | refine Ext.trans (by assumption) ?_))) hx2
  have z2 := k2.size
  have hn2 : n2 = 0 := I2.len.symm
  subst hn2
  have H3 := Lib.hid (fun W (k : Ext w2 W) => I3.ext k)
  clear I2 I3 hx2 H1
  go_wp2_with fail
  refine (ints_one _ _ _ _ _ _ _ (H3.out _ ((by repeat (first | assumption | exact Ext.refl _ | refine Ext.alloc ?_ _ | refine Ext.drew ?_ | refine Ext.drewN ?_ _ | refine Ext.setCell ?_ (by first | (simp; done) | omega | (simp; omega)) _ | refine Ext.trans (by assumption) ?_)))) (ints_at' [1, 0, 5, -1] (by decide) (by decide) (by simp))).mono ?_
  rintro e w3 ⟨rfl, hx3⟩
  have k3 : Ext w2 w3 := Ext.trans ((by repeat (first | assumption | exact Ext.refl _ | refine Ext.alloc ?_ _ | refine Ext.drew ?_ | refine Ext.drewN ?_ _ | refine Ext.setCell ?_ (by first | (simp; done) | omega | (simp; omega)) _ | refine Ext.trans (by assumption) ?_))) hx3
  obtain ⟨p0, p1, pf⟩ := hx3.box2 (B := w2.heap.size) (a := .int .i64 1) (b := .slice A2 0 c2) (by simp) (by simp) (by simp)
  have pl := lt_of_cell p0
  clear H3
  go_wp2_with fail
  refine (may_one _ _ _ rfl _).mono ?_
  rintro e w4 ⟨rfl, hx4⟩
  go_wp2
  go_ret
  exact ⟨rfl, (by repeat (first | assumption | exact Ext.refl _ | refine Ext.alloc ?_ _ | refine Ext.drew ?_ | refine Ext.drewN ?_ _ | refine Ext.setCell ?_ (by first | (simp; done) | omega | (simp; omega)) _ | refine Ext.trans (by assumption) ?_))⟩
end Go.Proofs.Ytpggilainapoaaa
