/- The document's answer for layer 6: At (in a text of its own). -/
import Derived.Test.YtoifhpcpahfddaaSkipV
import Derived.Test.YtoifhpcpahfddaaTreeRef
namespace Go.Proofs.Ytoifhpcpahfddaa
open Go.RowKit Go.WideShapes Go.ChangeShapes
set_option linter.unusedVariables false
set_option linter.unusedSimpArgs false





namespace Skip
open Tree
theorem climb_step {T : List Node} {p : Nat → Bool} {a : Nat} (h : p a = false) : climbV T p a = if a = 0 then -1 else climbV T p (up T a) := by
  unfold climbV
  by_cases h0 : a = 0
  · subst h0
    rw [if_pos rfl, line_zero, List.find?_cons, h]
    rfl
  · rw [if_neg h0, line_pos T h0, List.find?_cons, h]
end Skip
set_option maxHeartbeats 2000000 in
theorem r6at_any (A : Option Addr) (n c : Nat) (NS : List Node) (i : Int) (s : Nat) (hs : s < 18446744073709551616) (w : World) (h : NL w A n c NS) :
    Calls Try.prog 29 #[.agg #[.slice A n c], .int .i64 i, .int .u64 s] w fun e w' => e = .returned (.int .i64 (Tree.atV NS i s)) ∧ Ext w w' := by
  have hlen := h.len
  have hroom := h.row.room
  have HI := Lib.hid (fun b (hb : Tree.isV NS i = b) W (k : Ext w W) => ris_is A n c NS i b hb W (h.ext k))
  have HV := Lib.hid (fun W (k : Ext w W) => h.ext k)
  cases hq : Tree.isV NS i with
  | false =>
    have e : Tree.atV NS i s = -1 := by unfold Tree.atV; rw [hq]; rfl
    rw [e]
    replace HI := Lib.hid (fun W (kx : Ext w W) => HI.out false hq W kx)
    go_enter Try.func29, Try.ntmps29
    go_wp2_with fail
    refine (HI.out _ ((by repeat (first | assumption | exact Ext.refl _ | refine Ext.alloc ?_ _ | refine Ext.drew ?_ | refine Ext.drewN ?_ _ | refine Ext.setCell ?_ (by first | (simp; done) | omega | (simp; omega)) _ | refine Ext.trans (by assumption) ?_)))).mono ?_
    rintro e w1 ⟨rfl, hx1⟩
    have k1 : Ext w w1 := Ext.trans ((by repeat (first | assumption | exact Ext.refl _ | refine Ext.alloc ?_ _ | refine Ext.drew ?_ | refine Ext.drewN ?_ _ | refine Ext.setCell ?_ (by first | (simp; done) | omega | (simp; omega)) _ | refine Ext.trans (by assumption) ?_))) hx1
    have t0 := hx1.cell (p := ⟨w.heap.size, 0, none⟩) (v := .slice A n c) (by first | (simp; done) | (simp (maxDischargeDepth := 7) [go_sem]; done))
    go_wp2
    go_ret
    exact ⟨rfl, k1⟩
  | true =>
    have hm : Tree.mayV NS = true := by unfold Tree.isV at hq; simp at hq; exact hq.1
    have hr : 0 ≤ i ∧ i < n := by unfold Tree.isV at hq; rw [hm, hlen] at hq; simpa using hq
    obtain ⟨i, rfl⟩ := Int.eq_ofNat_of_zero_le hr.1
    have hin : i < n := by omega
    have e : Tree.atV NS i s = Skip.climbV NS (fun x => decide ((Tree.nd NS x).slot ≤ s)) i := by unfold Tree.atV; rw [hq]; rfl
    rw [e]
    replace HI := Lib.hid (fun W (kx : Ext w W) => HI.out true hq W kx)
    have HMA := Lib.hid hm
    obtain ⟨Z, hZ⟩ : ∃ Z, Skip.climbV NS (fun x => decide ((Tree.nd NS x).slot ≤ s)) i = Z := ⟨_, rfl⟩
    rw [hZ]
    clear e hq h hm
    go_enter Try.func29, Try.ntmps29
    go_wp2_with fail
    refine (HI.out _ ((by repeat (first | assumption | exact Ext.refl _ | refine Ext.alloc ?_ _ | refine Ext.drew ?_ | refine Ext.drewN ?_ _ | refine Ext.setCell ?_ (by first | (simp; done) | omega | (simp; omega)) _ | refine Ext.trans (by assumption) ?_)))).mono ?_
    rintro e w1 ⟨rfl, hx1⟩
    have k1 : Ext w w1 := Ext.trans ((by repeat (first | assumption | exact Ext.refl _ | refine Ext.alloc ?_ _ | refine Ext.drew ?_ | refine Ext.drewN ?_ _ | refine Ext.setCell ?_ (by first | (simp; done) | omega | (simp; omega)) _ | refine Ext.trans (by assumption) ?_))) hx1
    have t0 := hx1.cell (p := ⟨w.heap.size, 0, none⟩) (v := .slice A n c) (by first | (simp; done) | (simp (maxDischargeDepth := 7) [go_sem]; done))
    clear HI
    have T0 := Lib.hid t0
    go_wp2
    clear t0
    go_loopw [1] (fun a' wr => ∃ (a : Int), a' = .int .i64 a ∧ -1 ≤ a ∧ a < n ∧ ((a = -1 ∧ Z = -1) ∨ ∃ p : Nat, a = p ∧ Skip.climbV NS (fun x => decide ((Tree.nd NS x).slot ≤ s)) p = Z) ∧ Ext w1 wr) (fun a' _ => (intOf a' + 1).toNat)
    case atStart => exact ⟨i, rfl, by omega, by omega, .inr ⟨i, rfl, hZ⟩, Ext.refl _⟩
    case round =>
      obtain ⟨a, rfl, ha1, ha2, hor, hx⟩ := hrel
      have t0 := hx.cell T0.out
      rcases hor with ⟨rfl, rfl⟩ | ⟨p, rfl, hpz⟩
      · go_wp2
        go_ret
        exact ⟨rfl, k1.trans hx⟩
      · have hpn : p < n := by omega
        obtain ⟨b, off, rfl, hrx, hokx⟩ := (HV.out _ (k1.trans hx)).at' hpn
        have d0 := rangeAt_head hrx (Node.at32 hokx)
        change World.cell? _ _ = some (.int .i64 (Tree.nd NS p).par) at d0
        have d1 := rangeAt_head hrx (Node.at33 hokx)
        change World.cell? _ _ = some (.int .u64 (Tree.nd NS p).slot) at d1
        obtain ⟨x, hxs⟩ : ∃ x, (Tree.nd NS p).slot = x := ⟨_, rfl⟩
        rw [hxs] at d1
        by_cases hsx : s < x
        · have g0 : (s : Int) < x := by omega
          have hst := Skip.climb_step (T := NS) (p := fun x => decide ((Tree.nd NS x).slot ≤ s)) (a := p) (decide_eq_false (by omega))
          rw [hpz] at hst
          by_cases p0 : p = 0
          · rw [if_pos p0] at hst
            have hpar : (Tree.nd NS p).par = -1 := by rw [p0]; exact Tree.par_zero HMA.out
            rw [hpar] at d0
            have HST := Lib.hid hst
            clear hst hpz hpar hrx hokx p0 hxs
            go_wp2
            go_roundw
            case rel => exact ⟨-1, rfl, by omega, by omega, .inl ⟨rfl, HST.out⟩, hx⟩
            case measure => first | (simp [intOf]; done) | (simp [intOf]; omega)
          · rw [if_neg p0] at hst
            obtain ⟨_, _, hpar⟩ := Tree.par_pos HMA.out (i := p) (by omega) p0
            have hul := Tree.up_lt NS p0
            rw [hpar] at d0
            generalize Tree.up NS p = u at *
            have HST := Lib.hid hst
            clear hst hpz hpar hrx hokx p0 hxs
            go_wp2
            go_roundw
            case rel => exact ⟨u, rfl, by omega, by omega, .inr ⟨u, rfl, HST.out.symm⟩, hx⟩
            case measure => first | (simp [intOf]; done) | (simp [intOf]; omega)
        · have g0 : ¬ (s : Int) < x := by omega
          have g1 : decide (s < x) = false := decide_eq_false hsx
          rw [Skip.climb_here (decide_eq_true (by omega))] at hpz
          have HZ := Lib.hid hpz
          clear hpz hrx hokx hxs
          go_wp2
          go_ret
          exact ⟨by rw [← HZ.out]; rfl, k1.trans hx⟩
end Go.Proofs.Ytoifhpcpahfddaa
