/- The contracts of layer 7 (skip): is, Table, Up, Deep. -/
import Derived.Test.YtomobdlbopbpeaaSkip
import Derived.Deep.LoopGhost
namespace Go.Proofs.Ytomobdlbopbpeaa
open Go.RowKit Go.WideShapes Go.ChangeShapes
set_option linter.unusedVariables false
set_option linter.unusedSimpArgs false





set_option maxHeartbeats 1000000 in
theorem skis_any (A : Option Addr) (n c : Nat) (NS : List Node) (i : Int) (w : World) (h : NL w A n c NS) :
    Calls Try.prog 27 #[.agg #[.slice A n c], .int .i64 i] w fun e w' => e = .returned (.bool (Tree.isV NS i)) ∧ Ext w w' := by
  have hlen := h.len
  have HM := Lib.hid (fun b (hb : Tree.mayV NS = b) W (k : Ext w W) => treeMay_is A n c NS b hb W (h.ext k))
  clear h
  unfold Tree.isV
  rw [hlen]
  cases hm : Tree.mayV NS with
  | false =>
    rw [Bool.false_and]
    go_enter Try.func27, Try.ntmps27
    go_wp2_with fail
    refine (HM.out false hm _ ((by repeat (first | assumption | exact Ext.refl _ | refine Ext.alloc ?_ _ | refine Ext.drew ?_ | refine Ext.drewN ?_ _ | refine Ext.setCell ?_ (by first | (simp; done) | omega | (simp; omega)) _ | refine Ext.trans (by assumption) ?_)))).mono ?_
    rintro e w1 ⟨rfl, hx1⟩
    have k1 : Ext w w1 := Ext.trans ((by repeat (first | assumption | exact Ext.refl _ | refine Ext.alloc ?_ _ | refine Ext.drew ?_ | refine Ext.drewN ?_ _ | refine Ext.setCell ?_ (by first | (simp; done) | omega | (simp; omega)) _ | refine Ext.trans (by assumption) ?_))) hx1
    have t0 := hx1.cell (p := ⟨w.heap.size, 0, none⟩) (v := .slice A n c) (by first | (simp; done) | (simp (maxDischargeDepth := 7) [go_sem]; done))
    go_wp2
    go_ret
    exact ⟨by first | rfl | (show _ = Ending.returned (Value.bool false); rw [← g1]; rfl), k1⟩
  | true =>
    rw [Bool.true_and]
    by_cases h0 : 0 ≤ i
    · by_cases h1 : i < n
      · rw [decide_eq_true ⟨h0, h1⟩]
        go_enter Try.func27, Try.ntmps27
        go_wp2_with fail
        refine (HM.out true hm _ ((by repeat (first | assumption | exact Ext.refl _ | refine Ext.alloc ?_ _ | refine Ext.drew ?_ | refine Ext.drewN ?_ _ | refine Ext.setCell ?_ (by first | (simp; done) | omega | (simp; omega)) _ | refine Ext.trans (by assumption) ?_)))).mono ?_
        rintro e w1 ⟨rfl, hx1⟩
        have k1 : Ext w w1 := Ext.trans ((by repeat (first | assumption | exact Ext.refl _ | refine Ext.alloc ?_ _ | refine Ext.drew ?_ | refine Ext.drewN ?_ _ | refine Ext.setCell ?_ (by first | (simp; done) | omega | (simp; omega)) _ | refine Ext.trans (by assumption) ?_))) hx1
        have t0 := hx1.cell (p := ⟨w.heap.size, 0, none⟩) (v := .slice A n c) (by first | (simp; done) | (simp (maxDischargeDepth := 7) [go_sem]; done))
        go_wp2
        go_ret
        exact ⟨by first | rfl | (show _ = Ending.returned (Value.bool false); rw [← g1]; rfl), k1⟩
      · rw [decide_eq_false (fun g => h1 g.2)]
        have g1 : decide (i < (n : Int)) = false := decide_eq_false h1
        go_enter Try.func27, Try.ntmps27
        go_wp2_with fail
        refine (HM.out true hm _ ((by repeat (first | assumption | exact Ext.refl _ | refine Ext.alloc ?_ _ | refine Ext.drew ?_ | refine Ext.drewN ?_ _ | refine Ext.setCell ?_ (by first | (simp; done) | omega | (simp; omega)) _ | refine Ext.trans (by assumption) ?_)))).mono ?_
        rintro e w1 ⟨rfl, hx1⟩
        have k1 : Ext w w1 := Ext.trans ((by repeat (first | assumption | exact Ext.refl _ | refine Ext.alloc ?_ _ | refine Ext.drew ?_ | refine Ext.drewN ?_ _ | refine Ext.setCell ?_ (by first | (simp; done) | omega | (simp; omega)) _ | refine Ext.trans (by assumption) ?_))) hx1
        have t0 := hx1.cell (p := ⟨w.heap.size, 0, none⟩) (v := .slice A n c) (by first | (simp; done) | (simp (maxDischargeDepth := 7) [go_sem]; done))
        go_wp2
        go_ret
        exact ⟨by first | rfl | (show _ = Ending.returned (Value.bool false); rw [← g1]; rfl), k1⟩
    · rw [decide_eq_false (fun g => h0 g.1)]
      go_enter Try.func27, Try.ntmps27
      go_wp2_with fail
      refine (HM.out true hm _ ((by repeat (first | assumption | exact Ext.refl _ | refine Ext.alloc ?_ _ | refine Ext.drew ?_ | refine Ext.drewN ?_ _ | refine Ext.setCell ?_ (by first | (simp; done) | omega | (simp; omega)) _ | refine Ext.trans (by assumption) ?_)))).mono ?_
      rintro e w1 ⟨rfl, hx1⟩
      have k1 : Ext w w1 := Ext.trans ((by repeat (first | assumption | exact Ext.refl _ | refine Ext.alloc ?_ _ | refine Ext.drew ?_ | refine Ext.drewN ?_ _ | refine Ext.setCell ?_ (by first | (simp; done) | omega | (simp; omega)) _ | refine Ext.trans (by assumption) ?_))) hx1
      have t0 := hx1.cell (p := ⟨w.heap.size, 0, none⟩) (v := .slice A n c) (by first | (simp; done) | (simp (maxDischargeDepth := 7) [go_sem]; done))
      go_wp2
      go_ret
      exact ⟨by first | rfl | (show _ = Ending.returned (Value.bool false); rw [← g1]; rfl), k1⟩
theorem skis_is (A : Option Addr) (n c : Nat) (NS : List Node) (i : Int) (b : Bool) (hb : Tree.isV NS i = b) (w : World) (h : NL w A n c NS) :
    Calls Try.prog 27 #[.agg #[.slice A n c], .int .i64 i] w fun e w' => e = .returned (.bool b) ∧ Ext w w' := by subst hb; exact skis_any A n c NS i w h
set_option maxHeartbeats 1000000 in
theorem Table_any (A : Option Addr) (n c : Nat) (NS : List Node) (b : Bool) (hm : Tree.mayV NS = b) (w : World) (h : NL w A n c NS) :
    Calls Try.prog 11 #[.agg #[.slice A n c]] w fun e w' => (∃ B m d, e = .returned (.slice B m d) ∧ m = (if b = true then n else 0) ∧ Tab w' B m d NS) ∧ Ext w w' := by
  have HM := Lib.hid (fun W (k : Ext w W) => treeMay_is A n c NS b hm W (h.ext k))
  cases b with
  | false =>
    go_enter Try.func11, Try.ntmps11
    go_wp2_with fail
    refine (HM.out _ ((by repeat (first | assumption | exact Ext.refl _ | refine Ext.alloc ?_ _ | refine Ext.drew ?_ | refine Ext.drewN ?_ _ | refine Ext.setCell ?_ (by first | (simp; done) | omega | (simp; omega)) _ | refine Ext.trans (by assumption) ?_)))).mono ?_
    rintro e w1 ⟨rfl, hx1⟩
    have k1 : Ext w w1 := Ext.trans ((by repeat (first | assumption | exact Ext.refl _ | refine Ext.alloc ?_ _ | refine Ext.drew ?_ | refine Ext.drewN ?_ _ | refine Ext.setCell ?_ (by first | (simp; done) | omega | (simp; omega)) _ | refine Ext.trans (by assumption) ?_))) hx1
    go_wp2
    go_ret
    exact ⟨⟨_, _, _, rfl, rfl, ⟨WRow.nil_mk _ 4⟩⟩, k1⟩
  | true =>
    have HT := Lib.hid (fun W (k : Ext w W) => table_any A n c NS hm W (h.ext k))
    go_enter Try.func11, Try.ntmps11
    go_wp2_with fail
    refine (HM.out _ ((by repeat (first | assumption | exact Ext.refl _ | refine Ext.alloc ?_ _ | refine Ext.drew ?_ | refine Ext.drewN ?_ _ | refine Ext.setCell ?_ (by first | (simp; done) | omega | (simp; omega)) _ | refine Ext.trans (by assumption) ?_)))).mono ?_
    rintro e w1 ⟨rfl, hx1⟩
    have k1 : Ext w w1 := Ext.trans ((by repeat (first | assumption | exact Ext.refl _ | refine Ext.alloc ?_ _ | refine Ext.drew ?_ | refine Ext.drewN ?_ _ | refine Ext.setCell ?_ (by first | (simp; done) | omega | (simp; omega)) _ | refine Ext.trans (by assumption) ?_))) hx1
    have t0 := hx1.cell (p := ⟨w.heap.size, 0, none⟩) (v := .slice A n c) (by first | (simp; done) | (simp (maxDischargeDepth := 7) [go_sem]; done))
    go_wp2_with fail
    refine (HT.out _ k1).mono ?_
    rintro e w2 ⟨⟨B, d, rfl, hT⟩, hx2⟩
    go_wp2
    go_ret
    exact ⟨⟨_, _, _, rfl, rfl, hT⟩, k1.trans hx2⟩
namespace Skip
def deepV (T : List Node) (i : Int) : Int := if Tree.isV T i = true then (deepN T i.toNat : Nat) else -1
def upV (T : List Node) (i n : Int) : Int := if Tree.isV T i = true ∧ 0 ≤ n then anc T i.toNat n.toNat else -1
end Skip
set_option maxHeartbeats 2000000 in
theorem deep_any (A : Option Addr) (n c : Nat) (NS : List Node) (i : Int) (w : World) (h : NL w A n c NS) :
    Calls Try.prog 15 #[.agg #[.slice A n c], .int .i64 i] w fun e w' => e = .returned (.int .i64 (Skip.deepV NS i)) ∧ Ext w w' := by
  have hlen := h.len
  have hroom := h.row.room
  have HI := Lib.hid (fun b (hb : Tree.isV NS i = b) W (k : Ext w W) => skis_is A n c NS i b hb W (h.ext k))
  cases hq : Tree.isV NS i with
  | false =>
    have e : Skip.deepV NS i = -1 := by unfold Skip.deepV; rw [hq]; rfl
    rw [e]
    replace HI := Lib.hid (fun W (kx : Ext w W) => HI.out false hq W kx)
    go_enter Try.func15, Try.ntmps15
    go_wp2_with fail
    refine (HI.out _ ((by repeat (first | assumption | exact Ext.refl _ | refine Ext.alloc ?_ _ | refine Ext.drew ?_ | refine Ext.drewN ?_ _ | refine Ext.setCell ?_ (by first | (simp; done) | omega | (simp; omega)) _ | refine Ext.trans (by assumption) ?_)))).mono ?_
    rintro e w1 ⟨rfl, hx1⟩
    have k1 : Ext w w1 := Ext.trans ((by repeat (first | assumption | exact Ext.refl _ | refine Ext.alloc ?_ _ | refine Ext.drew ?_ | refine Ext.drewN ?_ _ | refine Ext.setCell ?_ (by first | (simp; done) | omega | (simp; omega)) _ | refine Ext.trans (by assumption) ?_))) hx1
    have t0 := hx1.cell (p := ⟨w.heap.size, 0, none⟩) (v := .slice A n c) (by first | (simp; done) | (simp (maxDischargeDepth := 7) [go_sem]; done))
    go_wp2
    go_ret
    exact ⟨rfl, k1⟩
  | true =>
    have hm : Tree.mayV NS = true := by unfold Tree.isV at hq; simp at hq; exact hq.1
    have hr : 0 ≤ i ∧ i < n := by unfold Tree.isV at hq; rw [hm, hlen] at hq; simpa using hq
    obtain ⟨i, rfl⟩ := Int.eq_ofNat_of_zero_le hr.1
    have hin : i < n := by omega
    have h12 := Tree.len_le hm
    rw [hlen] at h12
    have e : Skip.deepV NS i = (Skip.deepN NS i : Nat) := by unfold Skip.deepV; rw [hq]; rfl
    rw [e]
    have hdi := Skip.deep_le NS i
    replace HI := Lib.hid (fun W (kx : Ext w W) => HI.out true hq W kx)
    have HT := Lib.hid (fun W (k : Ext w W) => table_any A n c NS hm W (h.ext k))
    obtain ⟨D, hD⟩ : ∃ D, Skip.deepN NS i = D := ⟨_, rfl⟩
    rw [hD] at hdi ⊢
    clear e hq h hm
    go_enter Try.func15, Try.ntmps15
    go_wp2_with fail
    refine (HI.out _ ((by repeat (first | assumption | exact Ext.refl _ | refine Ext.alloc ?_ _ | refine Ext.drew ?_ | refine Ext.drewN ?_ _ | refine Ext.setCell ?_ (by first | (simp; done) | omega | (simp; omega)) _ | refine Ext.trans (by assumption) ?_)))).mono ?_
    rintro e w1 ⟨rfl, hx1⟩
    have k1 : Ext w w1 := Ext.trans ((by repeat (first | assumption | exact Ext.refl _ | refine Ext.alloc ?_ _ | refine Ext.drew ?_ | refine Ext.drewN ?_ _ | refine Ext.setCell ?_ (by first | (simp; done) | omega | (simp; omega)) _ | refine Ext.trans (by assumption) ?_))) hx1
    have t0 := hx1.cell (p := ⟨w.heap.size, 0, none⟩) (v := .slice A n c) (by first | (simp; done) | (simp (maxDischargeDepth := 7) [go_sem]; done))
    clear HI
    go_wp2_with fail
    refine (HT.out _ k1).mono ?_
    rintro e w2 ⟨⟨B, d, rfl, hT⟩, hx2⟩
    have k2 := k1.trans hx2
    have HTB := Lib.hid (fun W (k : Ext w2 W) => hT.ext k)
    clear HT t0 hT
    go_wp2
    go_loopw [1, 5, 7] (fun a' n' k' wr => ∃ (a m k : Nat), a < n ∧ a' = .int .i64 a ∧ n' = .int .i64 m ∧ k ≤ 4 ∧ k' = .int .i64 ((k : Int) - 1) ∧ Skip.deepN NS a < 2 ^ k ∧ m + Skip.deepN NS a = D ∧ Ext w2 wr) (fun _ _ k' _ => (intOf k' + 1).toNat)
    case atStart => exact ⟨i, 0, 4, hin, rfl, rfl, by omega, rfl, by rw [hD]; omega, by omega, Ext.refl _⟩
    case round =>
      obtain ⟨a, m, k, han, rfl, rfl, hk, rfl, hda, hsum, hx⟩ := hrel
      cases k with
      | zero =>
        have hm : m = D := by rw [Nat.pow_zero] at hda; omega
        subst hm
        go_wp2
        go_ret
        exact ⟨rfl, k2.trans hx⟩
      | succ k =>
        have ek : ((k + 1 : Nat) : Int) - 1 = (k : Int) := by omega
        rw [ek]
        obtain ⟨tb, to, rfl, hrc⟩ := (HTB.out _ hx).at' han
        have d0 := row_cell hrc (k := k) (by omega)
        have ga : (a : Int) < n := by omega
        have gk : (k : Int) < 4 := by omega
        rcases Skip.leap_cases NS a k with ⟨h1, hd, _⟩ | ⟨p, h1, hge, _, hlt, hd⟩
        · rw [h1] at d0
          go_wp2
          go_roundw
          case rel => exact ⟨a, m, k, han, rfl, rfl, by omega, rfl, hd, hsum, hx⟩
          case measure => first | (simp [intOf]; done) | (simp [intOf]; omega)
        · rw [h1] at d0
          have gp : ((p : Int) != -1) = true := by first | (simp; done) | (simp; omega)
          have hpa := Skip.deep_le NS a
          have hw : wrap64 ((m : Int) + wrap64 (2 ^ k)) = ((m + 2 ^ k : Nat) : Int) := by
            have e2 : ((2 : Int) ^ k) = ((2 ^ k : Nat) : Int) := by simp
            rw [e2]
            generalize 2 ^ k = q at *
            rw [IntWalk.wrap64_in (q : Int) ⟨by omega, by omega⟩, IntWalk.wrap64_in _ ⟨by omega, by omega⟩]
            omega
          have HW2 := Lib.hid hw
          clear hw
          go_wp2
          go_roundw
          case rel => exact ⟨p, m + 2 ^ k, k, by omega, rfl, by rw [HW2.out], by omega, rfl, by rw [hd, Nat.pow_succ] at *; omega, by omega, hx⟩
          case measure => first | (simp [intOf]; done) | (simp [intOf]; omega)
theorem bit_eq {m k : Nat} (hm : m < 12) (hk : k < 4) : (bits BinOp.and IntKind.i64 ((m : Int) / 2 ^ k) 1 == 1) = decide (m / 2 ^ k % 2 = 1) := by
  have : ∀ m, m < 12 → ∀ k, k < 4 → (bits BinOp.and IntKind.i64 (((m : Nat) : Int) / 2 ^ k) 1 == 1) = decide (m / 2 ^ k % 2 = 1) := by decide +kernel
  exact this m hm k hk
set_option maxHeartbeats 2000000 in
theorem up_any (A : Option Addr) (n c : Nat) (NS : List Node) (i m : Int) (w : World) (h : NL w A n c NS) :
    Calls Try.prog 13 #[.agg #[.slice A n c], .int .i64 i, .int .i64 m] w fun e w' => e = .returned (.int .i64 (Skip.upV NS i m)) ∧ Ext w w' := by
  have hlen := h.len
  have hroom := h.row.room
  have HI := Lib.hid (fun b (hb : Tree.isV NS i = b) W (k : Ext w W) => skis_is A n c NS i b hb W (h.ext k))
  cases hq : Tree.isV NS i with
  | false =>
    have e : Skip.upV NS i m = -1 := by unfold Skip.upV; rw [hq]; simp
    rw [e]
    replace HI := Lib.hid (fun W (kx : Ext w W) => HI.out false hq W kx)
    go_enter Try.func13, Try.ntmps13
    go_wp2
    go_step3
    go_wp2_with fail
    refine (HI.out _ ((by repeat (first | assumption | exact Ext.refl _ | refine Ext.alloc ?_ _ | refine Ext.drew ?_ | refine Ext.drewN ?_ _ | refine Ext.setCell ?_ (by first | (simp; done) | omega | (simp; omega)) _ | refine Ext.trans (by assumption) ?_)))).mono ?_
    rintro e w1 ⟨rfl, hx1⟩
    have k1 : Ext w w1 := Ext.trans ((by repeat (first | assumption | exact Ext.refl _ | refine Ext.alloc ?_ _ | refine Ext.drew ?_ | refine Ext.drewN ?_ _ | refine Ext.setCell ?_ (by first | (simp; done) | omega | (simp; omega)) _ | refine Ext.trans (by assumption) ?_))) hx1
    have t0 := hx1.cell (p := ⟨w.heap.size, 0, none⟩) (v := .slice A n c) (by first | (simp; done) | (simp (maxDischargeDepth := 7) [go_sem]; done))
    go_wp2
    try rw [Exit.noGoto_ret]
    go_ret
    exact ⟨rfl, k1⟩
  | true =>
    have hm : Tree.mayV NS = true := by unfold Tree.isV at hq; simp at hq; exact hq.1
    have hr : 0 ≤ i ∧ i < n := by unfold Tree.isV at hq; rw [hm, hlen] at hq; simpa using hq
    obtain ⟨i, rfl⟩ := Int.eq_ofNat_of_zero_le hr.1
    have hin : i < n := by omega
    have h12 := Tree.len_le hm
    rw [hlen] at h12
    have hdi := Skip.deep_le NS i
    by_cases m0 : m < 0
    · have e : Skip.upV NS i m = -1 := by unfold Skip.upV; rw [if_neg (by omega)]
      rw [e]
      replace HI := Lib.hid (fun W (kx : Ext w W) => HI.out true hq W kx)
      have q1 : decide (m < 0) = true := decide_eq_true m0
      go_enter Try.func13, Try.ntmps13
      go_wp2
      go_step3
      go_wp2_with fail
      refine (HI.out _ ((by repeat (first | assumption | exact Ext.refl _ | refine Ext.alloc ?_ _ | refine Ext.drew ?_ | refine Ext.drewN ?_ _ | refine Ext.setCell ?_ (by first | (simp; done) | omega | (simp; omega)) _ | refine Ext.trans (by assumption) ?_)))).mono ?_
      rintro e w1 ⟨rfl, hx1⟩
      have k1 : Ext w w1 := Ext.trans ((by repeat (first | assumption | exact Ext.refl _ | refine Ext.alloc ?_ _ | refine Ext.drew ?_ | refine Ext.drewN ?_ _ | refine Ext.setCell ?_ (by first | (simp; done) | omega | (simp; omega)) _ | refine Ext.trans (by assumption) ?_))) hx1
      have t0 := hx1.cell (p := ⟨w.heap.size, 0, none⟩) (v := .slice A n c) (by first | (simp; done) | (simp (maxDischargeDepth := 7) [go_sem]; done))
      go_wp2
      try rw [Exit.noGoto_ret]
      go_ret
      exact ⟨rfl, k1⟩
    have q1 : decide (m < 0) = false := decide_eq_false m0
    obtain ⟨m, rfl⟩ := Int.eq_ofNat_of_zero_le (show 0 ≤ m by omega)
    have e : Skip.upV NS i m = Skip.anc NS i m := by unfold Skip.upV; rw [if_pos ⟨hq, by omega⟩]; rfl
    rw [e]
    by_cases mn : n ≤ m
    · have e : Skip.anc NS i m = -1 := by
        rcases Skip.anc_cases NS i m with ⟨h1, _⟩ | ⟨a, _, h2, _⟩
        · exact h1
        · omega
      rw [e]
      replace HI := Lib.hid (fun W (kx : Ext w W) => HI.out true hq W kx)
      have q2 : decide (n ≤ m) = true := decide_eq_true mn
      go_enter Try.func13, Try.ntmps13
      go_wp2
      go_step3
      go_wp2_with fail
      refine (HI.out _ ((by repeat (first | assumption | exact Ext.refl _ | refine Ext.alloc ?_ _ | refine Ext.drew ?_ | refine Ext.drewN ?_ _ | refine Ext.setCell ?_ (by first | (simp; done) | omega | (simp; omega)) _ | refine Ext.trans (by assumption) ?_)))).mono ?_
      rintro e w1 ⟨rfl, hx1⟩
      have k1 : Ext w w1 := Ext.trans ((by repeat (first | assumption | exact Ext.refl _ | refine Ext.alloc ?_ _ | refine Ext.drew ?_ | refine Ext.drewN ?_ _ | refine Ext.setCell ?_ (by first | (simp; done) | omega | (simp; omega)) _ | refine Ext.trans (by assumption) ?_))) hx1
      have t0 := hx1.cell (p := ⟨w.heap.size, 0, none⟩) (v := .slice A n c) (by first | (simp; done) | (simp (maxDischargeDepth := 7) [go_sem]; done))
      go_wp2
      try rw [Exit.noGoto_ret]
      go_ret
      exact ⟨rfl, k1⟩
    have q2 : decide (n ≤ m) = false := decide_eq_false mn
    replace HI := Lib.hid (fun W (kx : Ext w W) => HI.out true hq W kx)
    have HT := Lib.hid (fun W (k : Ext w W) => table_any A n c NS hm W (h.ext k))
    clear e hq h hm
    go_enter Try.func13, Try.ntmps13
    go_wp2
    go_step3
    go_wp2_with fail
    refine (HI.out _ ((by repeat (first | assumption | exact Ext.refl _ | refine Ext.alloc ?_ _ | refine Ext.drew ?_ | refine Ext.drewN ?_ _ | refine Ext.setCell ?_ (by first | (simp; done) | omega | (simp; omega)) _ | refine Ext.trans (by assumption) ?_)))).mono ?_
    rintro e w1 ⟨rfl, hx1⟩
    have k1 : Ext w w1 := Ext.trans ((by repeat (first | assumption | exact Ext.refl _ | refine Ext.alloc ?_ _ | refine Ext.drew ?_ | refine Ext.drewN ?_ _ | refine Ext.setCell ?_ (by first | (simp; done) | omega | (simp; omega)) _ | refine Ext.trans (by assumption) ?_))) hx1
    have t0 := hx1.cell (p := ⟨w.heap.size, 0, none⟩) (v := .slice A n c) (by first | (simp; done) | (simp (maxDischargeDepth := 7) [go_sem]; done))
    clear HI
    go_wp2_with fail
    refine (HT.out _ k1).mono ?_
    rintro e w2 ⟨⟨B, d, rfl, hT⟩, hx2⟩
    have k2 := k1.trans hx2
    have HTB := Lib.hid (fun W (k : Ext w2 W) => hT.ext k)
    clear HT t0 hT
    go_wp2
    go_step3
    go_wp2
    go_loopg [1, 8, 26, 29, 32] 4 (fun g a' _ k' _ _ wr => ∃ (a : Int) (k : Nat), k + g = 4 ∧ a' = .int .i64 a ∧ k' = .int .i64 k ∧ a = Skip.anc NS i (m % 2 ^ k) ∧ Ext w2 wr)
    case atStart => exact ⟨i, 0, by omega, rfl, rfl, by rw [Nat.pow_zero, Nat.mod_one, Skip.anc_zero], Ext.refl _⟩
    case round =>
      obtain ⟨a, k, hk, rfl, rfl, ha, hx⟩ := hrel
      cases gk with
      | succ g =>
        have gk : (k : Int) < 4 := by omega
        have hle := Nat.mod_le m (2 ^ k)
        rcases Skip.anc_cases NS i (m % 2 ^ k) with ⟨h1, _, _⟩ | ⟨p, h1, _, hg, hpi, _, _⟩
        · rw [h1] at ha
          subst ha
          have HE := Lib.hid (Skip.anc_none h1 hle)
          clear h1
          go_wp2
          try rw [Exit.noGoto_ret]
          go_ret
          exact ⟨by rw [HE.out]; rfl, k2.trans hx⟩
        · rw [h1] at ha
          subst ha
          have gp : ((p : Int) == -1) = false := by first | (simp; done) | (simp; omega)
          have gpn : (p : Int) < n := by omega
          have gk4 : (k : Int) < 4 := by omega
          have gb := bit_eq (m := m) (k := k) (by omega) (by omega)
          have hms := Nat.mod_pow_succ (x := m) (b := 2) (k := k)
          by_cases hb : m / 2 ^ k % 2 = 1
          · rw [decide_eq_true hb] at gb
            obtain ⟨tb, to, rfl, hrc⟩ := (HTB.out _ hx).at' (i := p) (by omega)
            have d0 := row_cell hrc (k := k) (by omega)
            have HE : Hid (Skip.leap NS p k = Skip.anc NS i (m % 2 ^ (k + 1))) := by show _ = _; rw [hms, hb, Nat.mul_one]; exact (Skip.anc_add hg _).symm
            clear hms hb hg hrc
            go_wp2
            go_roundg g
            case measure => omega
            case rel => exact ⟨_, k + 1, by omega, rfl, by first | rfl | go_num, HE.out, hx⟩
          · rw [decide_eq_false hb] at gb
            have HE : Hid ((p : Int) = Skip.anc NS i (m % 2 ^ (k + 1))) := by show _ = _; rw [hms, show m / 2 ^ k % 2 = 0 by omega, Nat.mul_zero, Nat.add_zero, h1]
            clear hms hb hg
            go_wp2
            go_roundg g
            case measure => omega
            case rel => exact ⟨_, k + 1, by omega, rfl, by first | rfl | go_num, HE.out, hx⟩
      | zero =>
        obtain rfl : k = 4 := by omega
        have hm16 : m % 2 ^ 4 = m := Nat.mod_eq_of_lt (by omega)
        rw [hm16] at ha
        have HE := Lib.hid ha
        clear ha
        go_wp2
        try rw [Exit.noGoto_ret]
        go_ret
        exact ⟨by rw [HE.out]; rfl, k2.trans hx⟩
end Go.Proofs.Ytomobdlbopbpeaa
