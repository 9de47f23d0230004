/- The contracts of layer 7 (skip): climb, At, Meet. -/
import Derived.Test.YtomobdlbopbpeaaSkipUp
namespace Go.Proofs.Ytomobdlbopbpeaa
open Go.RowKit Go.WideShapes Go.ChangeShapes
set_option linter.unusedVariables false
set_option linter.unusedSimpArgs false





theorem atclose_any (A : Option Addr) (n c : Nat) (NS : List Node) (s : Nat) (hs : s < 18446744073709551616) (i : Nat) (hi : i < n) (b : Bool) (hb : decide ((Tree.nd NS i).slot ≤ s) = b) (B0 B1 : Nat) (w : World) (h : NL w A n c NS)
    (c0 : w.cell? ⟨B0, 0, none⟩ = some (.slice A n c)) (c1 : w.cell? ⟨B1, 0, none⟩ = some (.int .u64 s)) :
    Calls Try.prog 30 #[.int .i64 (i : Int), .pointer (some ⟨B0, 0, none⟩), .pointer (some ⟨B1, 0, none⟩)] w fun e w' => e = .returned (.bool b) ∧ Ext w w' := by
  have hroom := h.row.room
  obtain ⟨bb, off, rfl, hr, hok⟩ := h.at' hi
  have d0 := rangeAt_head hr (Node.at33 hok)
  change w.cell? _ = some (.int .u64 (Tree.nd NS i).slot) at d0
  generalize (Tree.nd NS i).slot = x at *
  have gi : (i : Int) < n := by omega
  have HB := Lib.hid hb
  clear hr hok h hb
  go_enter Try.func30, Try.ntmps30
  go_wp2
  by_cases hx : x ≤ s
  · have g : (x : Int) ≤ s := by omega
    have HE : Hid (b = true) := by show _ = _; rw [← HB.out, decide_eq_true hx]
    clear hx
    go_quiet (fail)
    go_wp2
    go_ret
    exact ⟨by rw [HE.out]; rfl, Ext.drewN (Ext.refl _) _⟩
  · have g : ¬ (x : Int) ≤ s := by omega
    have g2 : decide ((x : Int) ≤ s) = false := decide_eq_false g
    have g3 : decide (x ≤ s) = false := decide_eq_false hx
    have HE : Hid (b = false) := by show _ = _; rw [← HB.out, decide_eq_false hx]
    clear hx
    go_quiet (fail)
    go_wp2
    go_ret
    exact ⟨by rw [HE.out]; rfl, Ext.drewN (Ext.refl _) _⟩
theorem meetclose_any (A : Option Addr) (n c : Nat) (NS : List Node) (k : Nat) (hk : k < n) (i : Nat) (hi : i < n) (hn12 : n ≤ 12) (b : Bool) (hb : Tree.aboveV NS i k = b) (B0 B1 : Nat) (w : World) (h : NL w A n c NS)
    (c0 : w.cell? ⟨B0, 0, none⟩ = some (.slice A n c)) (c1 : w.cell? ⟨B1, 0, none⟩ = some (.int .i64 k)) :
    Calls Try.prog 32 #[.int .i64 (i : Int), .pointer (some ⟨B0, 0, none⟩), .pointer (some ⟨B1, 0, none⟩)] w fun e w' => e = .returned (.bool b) ∧ Ext w w' := by
  have H := Lib.hid (fun W (kx : Ext w W) => above_is A n c NS i k (wf_i64 (by omega) (by omega)) (wf_i64 (by omega) (by omega)) b hb W (h.ext kx))
  clear h
  go_enter Try.func32, Try.ntmps32
  go_wp2_with fail
  refine (H.out _ (Ext.refl _)).mono ?_
  rintro e w1 ⟨rfl, hx1⟩
  go_wp2
  go_ret
  exact ⟨rfl, hx1⟩
set_option maxHeartbeats 2000000 in
theorem climb_at (A : Option Addr) (n c : Nat) (NS : List Node) (hlen : NS.length = n) (hm : Tree.mayV NS = true) (p : Nat → Bool) (hR : Skip.Rises NS p) (i : Nat) (hin : i < n) (B0 B1 : Nat) (w : World) (hT : Tab w A n c NS)
    (hC : ∀ x, x < n → ∀ b, p x = b → ∀ W, Ext w W → Calls Try.prog 30 #[.int .i64 (x : Int), .pointer (some ⟨B0, 0, none⟩), .pointer (some ⟨B1, 0, none⟩)] W fun e w' => e = .returned (.bool b) ∧ Ext W w') :
    Calls Try.prog 29 #[.slice A n c, .int .i64 (i : Int), .func (.func 30) #[] #[.pointer (some ⟨B0, 0, none⟩), .pointer (some ⟨B1, 0, none⟩)]] w fun e w' => e = .returned (.int .i64 (Skip.climbV NS p i)) ∧ Ext w w' := by
  have h12 := Tree.len_le hm
  rw [hlen] at h12
  have HC := Lib.hid hC
  have HT := Lib.hid (fun W (k : Ext w W) => hT.ext k)
  have HR := Lib.hid hR
  have hroom : n ≤ 17592186043904 := by omega
  have HLN := Lib.hid hlen
  clear hT hC hm hR
  cases hp : p i with
  | true =>
    have e : Skip.climbV NS p i = i := Skip.climb_here hp
    rw [e]
    go_enter Try.func29, Try.ntmps29
    go_wp2_with fail
    refine (HC.out i hin true hp _ (Ext.refl _)).mono ?_
    rintro e w1 ⟨rfl, hx1⟩
    go_wp2
    go_ret
    exact ⟨rfl, hx1⟩
  | false =>
    obtain ⟨Z, hZ⟩ : ∃ Z, Skip.climbV NS p i = Z := ⟨_, rfl⟩
    rw [hZ]
    go_enter Try.func29, Try.ntmps29
    go_wp2_with fail
    refine (HC.out i hin false hp _ (Ext.refl _)).mono ?_
    rintro e w1 ⟨rfl, hx1⟩
    have hf0 := Skip.far_le NS p i
    go_wp2
    go_loopw [1, 7, 8] (fun a' k' _ wr => ∃ (a k : Nat), a < n ∧ a' = .int .i64 a ∧ k ≤ 4 ∧ k' = .int .i64 ((k : Int) - 1) ∧ p a = false ∧ Skip.far NS p a ≤ 2 ^ k ∧ Skip.climbV NS p a = Z ∧ Ext w wr) (fun _ k' _ _ => (intOf k' + 1).toNat)
    case atStart => exact ⟨i, 4, hin, rfl, by omega, rfl, hp, by omega, hZ, hx1⟩
    case round =>
      obtain ⟨a, k, han, rfl, hk, rfl, hpa, hfa, hza, hx⟩ := hrel
      have ga : (a : Int) < n := by omega
      cases k with
      | zero =>
        obtain ⟨tb, to, rfl, hrc⟩ := (HT.out _ hx).at' han
        have d0 := row_cell hrc (k := 0) (by omega)
        rw [← Skip.climb_end hpa hfa, hza] at d0
        simp only [Nat.add_zero] at d0
        clear hrc
        go_wp2
        go_ret
        exact ⟨rfl, hx⟩
      | succ k =>
        have ek : ((k + 1 : Nat) : Int) - 1 = (k : Int) := by omega
        rw [ek]
        obtain ⟨tb, to, rfl, hrc⟩ := (HT.out _ hx).at' han
        have d0 := row_cell hrc (k := k) (by omega)
        have gk : (k : Int) < 4 := by omega
        have HFA := Lib.hid hfa
        have HZA := Lib.hid hza
        have HPA := Lib.hid hpa
        clear hrc hfa hza hpa
        rcases Skip.leap_cases NS a k with ⟨h1, _, hg⟩ | ⟨q, h1, _, hg, hlt, _⟩
        · rw [h1] at d0
          have HF := Lib.hid (Skip.far_none p hg)
          clear hg h1
          go_wp2
          go_roundw
          case rel => exact ⟨a, k, han, rfl, by omega, rfl, HPA.out, HF.out, HZA.out, hx⟩
          case measure => first | (simp [intOf]; done) | (simp [intOf]; omega)
        · rw [h1] at d0
          have gp : ((q : Int) != -1) = true := by first | (simp; done) | (simp; omega)
          have hqn : q < n := by omega
          cases hpq : p q with
          | true =>
            have HF := Lib.hid (Skip.far_yes hg hpq)
            clear hg h1
            go_wp2_with fail
            refine (HC.out q hqn true hpq _ hx).mono ?_
            rintro e w3 ⟨rfl, hx3⟩
            go_wp2
            go_roundw
            case rel => exact ⟨a, k, han, rfl, by omega, rfl, HPA.out, HF.out, HZA.out, hx.trans hx3⟩
            case measure => first | (simp [intOf]; done) | (simp [intOf]; omega)
          | false =>
            have hfn := Skip.far_no HR.out (by rw [HLN.out]; exact han) hg hpq
            have HF : Hid (Skip.far NS p q ≤ 2 ^ k) := by show _ ≤ _; have := HFA.out; rw [Nat.pow_succ] at this; omega
            have HZ : Hid (Skip.climbV NS p q = Z) := by show _ = _; rw [← Skip.climb_leap HR.out (by rw [HLN.out]; exact han) hg hpq]; exact HZA.out
            clear hg h1 hfn
            go_wp2_with fail
            refine (HC.out q hqn false hpq _ hx).mono ?_
            rintro e w3 ⟨rfl, hx3⟩
            go_wp2
            go_roundw
            case rel => exact ⟨q, k, hqn, rfl, by omega, rfl, hpq, HF.out, HZ.out, hx.trans hx3⟩
            case measure => first | (simp [intOf]; done) | (simp [intOf]; omega)
set_option maxHeartbeats 2000000 in
theorem climb_meet (A : Option Addr) (n c : Nat) (NS : List Node) (hlen : NS.length = n) (hm : Tree.mayV NS = true) (p : Nat → Bool) (hR : Skip.Rises NS p) (i : Nat) (hin : i < n) (B0 B1 : Nat) (w : World) (hT : Tab w A n c NS)
    (hC : ∀ x, x < n → ∀ b, p x = b → ∀ W, Ext w W → Calls Try.prog 32 #[.int .i64 (x : Int), .pointer (some ⟨B0, 0, none⟩), .pointer (some ⟨B1, 0, none⟩)] W fun e w' => e = .returned (.bool b) ∧ Ext W w') :
    Calls Try.prog 29 #[.slice A n c, .int .i64 (i : Int), .func (.func 32) #[] #[.pointer (some ⟨B0, 0, none⟩), .pointer (some ⟨B1, 0, none⟩)]] w fun e w' => e = .returned (.int .i64 (Skip.climbV NS p i)) ∧ Ext w w' := by
  have h12 := Tree.len_le hm
  rw [hlen] at h12
  have HC := Lib.hid hC
  have HT := Lib.hid (fun W (k : Ext w W) => hT.ext k)
  have HR := Lib.hid hR
  have hroom : n ≤ 17592186043904 := by omega
  have HLN := Lib.hid hlen
  clear hT hC hm hR
  cases hp : p i with
  | true =>
    have e : Skip.climbV NS p i = i := Skip.climb_here hp
    rw [e]
    go_enter Try.func29, Try.ntmps29
    go_wp2_with fail
    refine (HC.out i hin true hp _ (Ext.refl _)).mono ?_
    rintro e w1 ⟨rfl, hx1⟩
    go_wp2
    go_ret
    exact ⟨rfl, hx1⟩
  | false =>
    obtain ⟨Z, hZ⟩ : ∃ Z, Skip.climbV NS p i = Z := ⟨_, rfl⟩
    rw [hZ]
    go_enter Try.func29, Try.ntmps29
    go_wp2_with fail
    refine (HC.out i hin false hp _ (Ext.refl _)).mono ?_
    rintro e w1 ⟨rfl, hx1⟩
    have hf0 := Skip.far_le NS p i
    go_wp2
    go_loopw [1, 7, 8] (fun a' k' _ wr => ∃ (a k : Nat), a < n ∧ a' = .int .i64 a ∧ k ≤ 4 ∧ k' = .int .i64 ((k : Int) - 1) ∧ p a = false ∧ Skip.far NS p a ≤ 2 ^ k ∧ Skip.climbV NS p a = Z ∧ Ext w wr) (fun _ k' _ _ => (intOf k' + 1).toNat)
    case atStart => exact ⟨i, 4, hin, rfl, by omega, rfl, hp, by omega, hZ, hx1⟩
    case round =>
      obtain ⟨a, k, han, rfl, hk, rfl, hpa, hfa, hza, hx⟩ := hrel
      have ga : (a : Int) < n := by omega
      cases k with
      | zero =>
        obtain ⟨tb, to, rfl, hrc⟩ := (HT.out _ hx).at' han
        have d0 := row_cell hrc (k := 0) (by omega)
        rw [← Skip.climb_end hpa hfa, hza] at d0
        simp only [Nat.add_zero] at d0
        clear hrc
        go_wp2
        go_ret
        exact ⟨rfl, hx⟩
      | succ k =>
        have ek : ((k + 1 : Nat) : Int) - 1 = (k : Int) := by omega
        rw [ek]
        obtain ⟨tb, to, rfl, hrc⟩ := (HT.out _ hx).at' han
        have d0 := row_cell hrc (k := k) (by omega)
        have gk : (k : Int) < 4 := by omega
        have HFA := Lib.hid hfa
        have HZA := Lib.hid hza
        have HPA := Lib.hid hpa
        clear hrc hfa hza hpa
        rcases Skip.leap_cases NS a k with ⟨h1, _, hg⟩ | ⟨q, h1, _, hg, hlt, _⟩
        · rw [h1] at d0
          have HF := Lib.hid (Skip.far_none p hg)
          clear hg h1
          go_wp2
          go_roundw
          case rel => exact ⟨a, k, han, rfl, by omega, rfl, HPA.out, HF.out, HZA.out, hx⟩
          case measure => first | (simp [intOf]; done) | (simp [intOf]; omega)
        · rw [h1] at d0
          have gp : ((q : Int) != -1) = true := by first | (simp; done) | (simp; omega)
          have hqn : q < n := by omega
          cases hpq : p q with
          | true =>
            have HF := Lib.hid (Skip.far_yes hg hpq)
            clear hg h1
            go_wp2_with fail
            refine (HC.out q hqn true hpq _ hx).mono ?_
            rintro e w3 ⟨rfl, hx3⟩
            go_wp2
            go_roundw
            case rel => exact ⟨a, k, han, rfl, by omega, rfl, HPA.out, HF.out, HZA.out, hx.trans hx3⟩
            case measure => first | (simp [intOf]; done) | (simp [intOf]; omega)
          | false =>
            have hfn := Skip.far_no HR.out (by rw [HLN.out]; exact han) hg hpq
            have HF : Hid (Skip.far NS p q ≤ 2 ^ k) := by show _ ≤ _; have := HFA.out; rw [Nat.pow_succ] at this; omega
            have HZ : Hid (Skip.climbV NS p q = Z) := by show _ = _; rw [← Skip.climb_leap HR.out (by rw [HLN.out]; exact han) hg hpq]; exact HZA.out
            clear hg h1 hfn
            go_wp2_with fail
            refine (HC.out q hqn false hpq _ hx).mono ?_
            rintro e w3 ⟨rfl, hx3⟩
            go_wp2
            go_roundw
            case rel => exact ⟨q, k, hqn, rfl, by omega, rfl, hpq, HF.out, HZ.out, hx.trans hx3⟩
            case measure => first | (simp [intOf]; done) | (simp [intOf]; omega)
namespace Skip
def meetV (T : List Node) (a b : Int) : Int := if Tree.isV T a = true ∧ Tree.isV T b = true then climbV T (fun x => decide (x ∈ Tree.line T b.toNat)) a.toNat else -1
theorem rises_line (T : List Node) (b : Nat) : Rises T (fun x => decide (x ∈ Tree.line T b)) := fun x y _ hx hy => decide_eq_true (Tree.mem_trans hx (of_decide_eq_true hy))
end Skip
set_option maxHeartbeats 1000000 in
theorem skat_any (A : Option Addr) (n c : Nat) (NS : List Node) (i : Int) (s : Nat) (hs : s < 18446744073709551616) (w : World) (h : NL w A n c NS) :
    Calls Try.prog 17 #[.agg #[.slice A n c], .int .i64 i, .int .u64 s] w fun e w' => e = .returned (.int .i64 (Tree.atV NS i s)) ∧ Ext w w' := by
  have hlen := h.len
  have hroom := h.row.room
  have HI := Lib.hid (fun b (hb : Tree.isV NS i = b) W (k : Ext w W) => skis_is A n c NS i b hb W (h.ext k))
  cases hq : Tree.isV NS i with
  | false =>
    have e : Tree.atV NS i s = -1 := by unfold Tree.atV; rw [hq]; rfl
    rw [e]
    replace HI := Lib.hid (fun W (kx : Ext w W) => HI.out false hq W kx)
    go_enter Try.func17, Try.ntmps17
    go_wp2_with fail
    refine (HI.out _ ((by repeat (first | assumption | exact Ext.refl _ | refine Ext.alloc ?_ _ | refine Ext.drew ?_ | refine Ext.drewN ?_ _ | refine Ext.setCell ?_ (by first | (simp; done) | omega | (simp; omega)) _ | refine Ext.trans (by assumption) ?_)))).mono ?_
    rintro e w1 ⟨rfl, hx1⟩
    have k1 : Ext w w1 := Ext.trans ((by repeat (first | assumption | exact Ext.refl _ | refine Ext.alloc ?_ _ | refine Ext.drew ?_ | refine Ext.drewN ?_ _ | refine Ext.setCell ?_ (by first | (simp; done) | omega | (simp; omega)) _ | refine Ext.trans (by assumption) ?_))) hx1
    have t0 := hx1.cell (p := ⟨w.heap.size, 0, none⟩) (v := .slice A n c) (by first | (simp; done) | (simp (maxDischargeDepth := 7) [go_sem]; done))
    have t1 := hx1.cell (p := ⟨w.heap.size + 1, 0, none⟩) (v := .int .u64 s) (by first | (simp; done) | (simp (maxDischargeDepth := 7) [go_sem]; done))
    go_wp2
    go_ret
    exact ⟨rfl, k1⟩
  | true =>
    have hm : Tree.mayV NS = true := by unfold Tree.isV at hq; simp at hq; exact hq.1
    have hr : 0 ≤ i ∧ i < n := by unfold Tree.isV at hq; rw [hm, hlen] at hq; simpa using hq
    obtain ⟨i, rfl⟩ := Int.eq_ofNat_of_zero_le hr.1
    have hin : i < n := by omega
    have h12 := Tree.len_le hm
    rw [hlen] at h12
    have e : Tree.atV NS i s = Skip.climbV NS (fun x => decide ((Tree.nd NS x).slot ≤ s)) i := by unfold Tree.atV; rw [hq]; rfl
    rw [e]
    replace HI := Lib.hid (fun W (kx : Ext w W) => HI.out true hq W kx)
    have HT := Lib.hid (fun W (k : Ext w W) => table_any A n c NS hm W (h.ext k))
    have HQ := Lib.hid (fun x (hx : x < n) b hb B0 B1 W (k : Ext w W) c0 c1 => atclose_any A n c NS s hs x hx b hb B0 B1 W (h.ext k) c0 c1)
    have HMA := Lib.hid hm
    have HLEN := Lib.hid hlen
    have HRI : Hid (Skip.Rises NS (fun x => decide ((Tree.nd NS x).slot ≤ s))) := fun a b hb hab hp => decide_eq_true (by have := (Tree.slot_mono hm hb hab).1; have := of_decide_eq_true hp; omega)
    clear e hq h hm hlen
    go_enter Try.func17, Try.ntmps17
    go_wp2_with fail
    refine (HI.out _ ((by repeat (first | assumption | exact Ext.refl _ | refine Ext.alloc ?_ _ | refine Ext.drew ?_ | refine Ext.drewN ?_ _ | refine Ext.setCell ?_ (by first | (simp; done) | omega | (simp; omega)) _ | refine Ext.trans (by assumption) ?_)))).mono ?_
    rintro e w1 ⟨rfl, hx1⟩
    have k1 : Ext w w1 := Ext.trans ((by repeat (first | assumption | exact Ext.refl _ | refine Ext.alloc ?_ _ | refine Ext.drew ?_ | refine Ext.drewN ?_ _ | refine Ext.setCell ?_ (by first | (simp; done) | omega | (simp; omega)) _ | refine Ext.trans (by assumption) ?_))) hx1
    have t0 := hx1.cell (p := ⟨w.heap.size, 0, none⟩) (v := .slice A n c) (by first | (simp; done) | (simp (maxDischargeDepth := 7) [go_sem]; done))
    have t1 := hx1.cell (p := ⟨w.heap.size + 1, 0, none⟩) (v := .int .u64 s) (by first | (simp; done) | (simp (maxDischargeDepth := 7) [go_sem]; done))
    clear HI
    go_wp2_with fail
    refine (HT.out _ k1).mono ?_
    rintro e w2 ⟨⟨B, d, rfl, hT⟩, hx2⟩
    have k2 := k1.trans hx2
    replace t0 := hx2.cell t0
    replace t1 := hx2.cell t1
    go_wp2_with fail
    refine (climb_at B n d NS HLEN.out HMA.out _ HRI.out i hin _ _ w2 hT (fun x hx b hb W kx => HQ.out x hx b hb _ _ W (k2.trans kx) (kx.cell t0) (kx.cell t1))).mono ?_
    rintro e w3 ⟨rfl, hx3⟩
    go_wp2
    go_ret
    exact ⟨rfl, k2.trans hx3⟩
set_option maxHeartbeats 1000000 in
theorem meet_any (A : Option Addr) (n c : Nat) (NS : List Node) (i k : Int) (w : World) (h : NL w A n c NS) :
    Calls Try.prog 19 #[.agg #[.slice A n c], .int .i64 i, .int .i64 k] w fun e w' => e = .returned (.int .i64 (Skip.meetV NS i k)) ∧ Ext w w' := by
  have hlen := h.len
  have hroom := h.row.room
  have HI := Lib.hid (fun b (hb : Tree.isV NS i = b) W (k : Ext w W) => skis_is A n c NS i b hb W (h.ext k))
  cases hq : Tree.isV NS i with
  | false =>
    have e : Skip.meetV NS i k = -1 := by unfold Skip.meetV; rw [hq]; simp
    rw [e]
    replace HI := Lib.hid (fun W (kx : Ext w W) => HI.out false hq W kx)
    go_enter Try.func19, Try.ntmps19
    go_wp2_with fail
    refine (HI.out _ ((by repeat (first | assumption | exact Ext.refl _ | refine Ext.alloc ?_ _ | refine Ext.drew ?_ | refine Ext.drewN ?_ _ | refine Ext.setCell ?_ (by first | (simp; done) | omega | (simp; omega)) _ | refine Ext.trans (by assumption) ?_)))).mono ?_
    rintro e w1 ⟨rfl, hx1⟩
    have k1 : Ext w w1 := Ext.trans ((by repeat (first | assumption | exact Ext.refl _ | refine Ext.alloc ?_ _ | refine Ext.drew ?_ | refine Ext.drewN ?_ _ | refine Ext.setCell ?_ (by first | (simp; done) | omega | (simp; omega)) _ | refine Ext.trans (by assumption) ?_))) hx1
    have t0 := hx1.cell (p := ⟨w.heap.size, 0, none⟩) (v := .slice A n c) (by first | (simp; done) | (simp (maxDischargeDepth := 7) [go_sem]; done))
    have t1 := hx1.cell (p := ⟨w.heap.size + 1, 0, none⟩) (v := .int .i64 k) (by first | (simp; done) | (simp (maxDischargeDepth := 7) [go_sem]; done))
    go_wp2
    go_ret
    exact ⟨rfl, k1⟩
  | true =>
    replace HI := Lib.hid (fun W (kx : Ext w W) => HI.out true hq W kx)
    obtain ⟨q, hq2⟩ : ∃ q, Tree.isV NS k = q := ⟨_, rfl⟩
    have HI2 := Lib.hid (fun W (kx : Ext w W) => skis_is A n c NS k q hq2 W (h.ext kx))
    cases q with
    | false =>
      have e : Skip.meetV NS i k = -1 := by unfold Skip.meetV; rw [hq, hq2]; simp
      rw [e]
      go_enter Try.func19, Try.ntmps19
      go_wp2_with fail
      refine (HI.out _ ((by repeat (first | assumption | exact Ext.refl _ | refine Ext.alloc ?_ _ | refine Ext.drew ?_ | refine Ext.drewN ?_ _ | refine Ext.setCell ?_ (by first | (simp; done) | omega | (simp; omega)) _ | refine Ext.trans (by assumption) ?_)))).mono ?_
      rintro e w1 ⟨rfl, hx1⟩
      have k1 : Ext w w1 := Ext.trans ((by repeat (first | assumption | exact Ext.refl _ | refine Ext.alloc ?_ _ | refine Ext.drew ?_ | refine Ext.drewN ?_ _ | refine Ext.setCell ?_ (by first | (simp; done) | omega | (simp; omega)) _ | refine Ext.trans (by assumption) ?_))) hx1
      have t0 := hx1.cell (p := ⟨w.heap.size, 0, none⟩) (v := .slice A n c) (by first | (simp; done) | (simp (maxDischargeDepth := 7) [go_sem]; done))
      have t1 := hx1.cell (p := ⟨w.heap.size + 1, 0, none⟩) (v := .int .i64 k) (by first | (simp; done) | (simp (maxDischargeDepth := 7) [go_sem]; done))
      go_wp2_with fail
      refine (HI2.out _ k1).mono ?_
      rintro e w2 ⟨rfl, hx2⟩
      go_wp2
      go_ret
      exact ⟨rfl, k1.trans hx2⟩
    | true =>
      have hm : Tree.mayV NS = true := by unfold Tree.isV at hq; simp at hq; exact hq.1
      have hr : 0 ≤ i ∧ i < n := by unfold Tree.isV at hq; rw [hm, hlen] at hq; simpa using hq
      have hr2 : 0 ≤ k ∧ k < n := by unfold Tree.isV at hq2; rw [hm, hlen] at hq2; simpa using hq2
      obtain ⟨i, rfl⟩ := Int.eq_ofNat_of_zero_le hr.1
      obtain ⟨k, rfl⟩ := Int.eq_ofNat_of_zero_le hr2.1
      have hin : i < n := by omega
      have hkn : k < n := by omega
      have h12 := Tree.len_le hm
      rw [hlen] at h12
      have e : Skip.meetV NS i k = Skip.climbV NS (fun x => decide (x ∈ Tree.line NS k)) i := by unfold Skip.meetV; rw [if_pos ⟨hq, hq2⟩]; rfl
      rw [e]
      have HT := Lib.hid (fun W (kx : Ext w W) => table_any A n c NS hm W (h.ext kx))
      have HQ := Lib.hid (fun x (hx : x < n) b (hb : decide (x ∈ Tree.line NS k) = b) B0 B1 W (kx : Ext w W) c0 c1 => meetclose_any A n c NS k hkn x hx h12 b (by rw [Tree.above_eq hm (by omega) (by omega)]; exact hb) B0 B1 W (h.ext kx) c0 c1)
      have HMA := Lib.hid hm
      have HLEN := Lib.hid hlen
      clear e hq hq2 h hm hlen
      go_enter Try.func19, Try.ntmps19
      go_wp2_with fail
      refine (HI.out _ ((by repeat (first | assumption | exact Ext.refl _ | refine Ext.alloc ?_ _ | refine Ext.drew ?_ | refine Ext.drewN ?_ _ | refine Ext.setCell ?_ (by first | (simp; done) | omega | (simp; omega)) _ | refine Ext.trans (by assumption) ?_)))).mono ?_
      rintro e w1 ⟨rfl, hx1⟩
      have k1 : Ext w w1 := Ext.trans ((by repeat (first | assumption | exact Ext.refl _ | refine Ext.alloc ?_ _ | refine Ext.drew ?_ | refine Ext.drewN ?_ _ | refine Ext.setCell ?_ (by first | (simp; done) | omega | (simp; omega)) _ | refine Ext.trans (by assumption) ?_))) hx1
      have t0 := hx1.cell (p := ⟨w.heap.size, 0, none⟩) (v := .slice A n c) (by first | (simp; done) | (simp (maxDischargeDepth := 7) [go_sem]; done))
      have t1 := hx1.cell (p := ⟨w.heap.size + 1, 0, none⟩) (v := .int .i64 k) (by first | (simp; done) | (simp (maxDischargeDepth := 7) [go_sem]; done))
      clear HI
      go_wp2_with fail
      refine (HI2.out _ k1).mono ?_
      rintro e w2 ⟨rfl, hx2⟩
      have k2 := k1.trans hx2
      replace t0 := hx2.cell t0
      replace t1 := hx2.cell t1
      go_wp2_with fail
      refine (HT.out _ k2).mono ?_
      rintro e w3 ⟨⟨B, d, rfl, hT⟩, hx3⟩
      have k3 := k2.trans hx3
      replace t0 := hx3.cell t0
      replace t1 := hx3.cell t1
      go_wp2_with fail
      refine (climb_meet B n d NS HLEN.out HMA.out _ (Skip.rises_line NS k) i hin _ _ w3 hT (fun x hx b hb W kx => HQ.out x hx b hb _ _ W (k3.trans kx) (kx.cell t0) (kx.cell t1))).mono ?_
      rintro e w4 ⟨rfl, hx4⟩
      go_wp2
      go_ret
      exact ⟨rfl, k3.trans hx4⟩
end Go.Proofs.Ytomobdlbopbpeaa
