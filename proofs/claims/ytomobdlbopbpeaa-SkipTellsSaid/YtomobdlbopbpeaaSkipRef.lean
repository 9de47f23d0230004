/- The document's answer for layer 7: is, Up, Deep, Meet, Same; for layer 6: At. -/
import Derived.Test.YtomobdlbopbpeaaSkipLaw
import Derived.Test.YtomobdlbopbpeaaTreeRef
namespace Go.Proofs.Ytomobdlbopbpeaa
open Go.RowKit Go.WideShapes Go.ChangeShapes
set_option linter.unusedVariables false
set_option linter.unusedSimpArgs false





namespace Skip
open Tree
theorem anc_step {T : List Node} {p m : Nat} (h : 0 < m) : anc T p m = if p = 0 then -1 else anc T (up T p) (m - 1) := by
  obtain ⟨m, rfl⟩ : ∃ k, m = k + 1 := ⟨m - 1, by omega⟩
  by_cases h0 : p = 0
  · subst h0; rw [if_pos rfl]; rfl
  · rw [if_neg h0, Nat.add_sub_cancel]
    unfold anc
    rw [line_pos T h0, List.getElem?_cons_succ]
theorem climb_step {T : List Node} {p : Nat → Bool} {a : Nat} (h : p a = false) : climbV T p a = if a = 0 then -1 else climbV T p (up T a) := by
  unfold climbV
  by_cases h0 : a = 0
  · subst h0
    rw [if_pos rfl, line_zero, List.find?_cons, h]
    rfl
  · rw [if_neg h0, line_pos T h0, List.find?_cons, h]
theorem meet_top {T : List Node} {a b : Int} {i : Nat} (ha : aboveV T (i : Int) a = true) (hb : aboveV T (i : Int) b = true) (hn : ∀ y : Nat, i < y → y < T.length → aboveV T (y : Int) a = true → aboveV T (y : Int) b = true → False) : meetV T a b = i := by
  unfold aboveV at ha hb
  simp only [Bool.and_eq_true] at ha hb
  have hm : mayV T = true := by have := ha.1.1; unfold isV at this; simp at this; exact this.1
  have ra : 0 ≤ a ∧ a < T.length := by have := ha.1.2; unfold isV at this; simpa [hm] using this
  have rb : 0 ≤ b ∧ b < T.length := by have := hb.1.2; unfold isV at this; simpa [hm] using this
  have ri : i < T.length := by have := ha.1.1; unfold isV at this; simp [hm] at this; omega
  obtain ⟨a, rfl⟩ := Int.eq_ofNat_of_zero_le ra.1
  obtain ⟨b, rfl⟩ := Int.eq_ofNat_of_zero_le rb.1
  obtain ⟨m, h1, _, h3, h4, h5, h6, h7, _⟩ := meet_full hm (a := a) (b := b) (by omega) (by omega)
  rw [h1]
  have hia : i ∈ line T a := of_decide_eq_true ha.2
  have hib : i ∈ line T b := of_decide_eq_true hb.2
  have him := mem_le (h7 i hia hib)
  rcases Nat.lt_or_eq_of_le him with h | h
  · exact (hn m h (by omega) ((above_iff hm (by omega) (by omega)).2 h5) ((above_iff hm (by omega) (by omega)).2 h6)).elim
  · rw [h]
theorem meet_nil {T : List Node} {a b : Int} (hn : ∀ y : Nat, y < T.length → aboveV T (y : Int) a = true → aboveV T (y : Int) b = true → False) : meetV T a b = -1 := by
  unfold meetV
  by_cases h : isV T a = true ∧ isV T b = true
  · exfalso
    have hm : mayV T = true := by have := h.1; unfold isV at this; simp at this; exact this.1
    have ra : 0 ≤ a ∧ a < T.length := by have := h.1; unfold isV at this; simpa [hm] using this
    have rb : 0 ≤ b ∧ b < T.length := by have := h.2; unfold isV at this; simpa [hm] using this
    obtain ⟨a, rfl⟩ := Int.eq_ofNat_of_zero_le ra.1
    obtain ⟨b, rfl⟩ := Int.eq_ofNat_of_zero_le rb.1
    exact hn 0 (by omega) ((above_iff hm (by omega) (by omega)).2 (zero_mem T a)) ((above_iff hm (by omega) (by omega)).2 (zero_mem T b))
  · rw [if_neg h]
end Skip
set_option maxHeartbeats 1000000 in
theorem r7is_any (A : Option Addr) (n c : Nat) (NS : List Node) (i : Int) (w : World) (h : NL w A n c NS) :
    Calls Try.prog 28 #[.agg #[.slice A n c], .int .i64 i] w fun e w' => e = .returned (.bool (Tree.isV NS i)) ∧ Ext w w' := by
  have hlen := h.len
  have HM := Lib.hid (fun b (hb : Tree.mayV NS = b) W (k : Ext w W) => rmay_is A n c NS b hb W (h.ext k))
  clear h
  unfold Tree.isV
  rw [hlen]
  cases hm : Tree.mayV NS with
  | false =>
    rw [Bool.false_and]
    go_enter Try.func28, Try.ntmps28
    go_wp2_with fail
    refine (HM.out false hm _ ((by repeat (first | assumption | exact Ext.refl _ | refine Ext.alloc ?_ _ | refine Ext.drew ?_ | refine Ext.drewN ?_ _ | refine Ext.setCell ?_ (by first | (simp; done) | omega | (simp; omega)) _ | refine Ext.trans (by assumption) ?_)))).mono ?_
    rintro e w1 ⟨rfl, hx1⟩
    have k1 : Ext w w1 := Ext.trans ((by repeat (first | assumption | exact Ext.refl _ | refine Ext.alloc ?_ _ | refine Ext.drew ?_ | refine Ext.drewN ?_ _ | refine Ext.setCell ?_ (by first | (simp; done) | omega | (simp; omega)) _ | refine Ext.trans (by assumption) ?_))) hx1
    have t0 := hx1.cell (p := ⟨w.heap.size, 0, none⟩) (v := .slice A n c) (by first | (simp; done) | (simp (maxDischargeDepth := 7) [go_sem]; done))
    go_wp2
    go_ret
    exact ⟨by first | rfl | (show _ = Ending.returned (Value.bool false); rw [← g1]; rfl), k1⟩
  | true =>
    rw [Bool.true_and]
    by_cases h0 : 0 ≤ i
    · by_cases h1 : i < n
      · rw [decide_eq_true ⟨h0, h1⟩]
        go_enter Try.func28, Try.ntmps28
        go_wp2_with fail
        refine (HM.out true hm _ ((by repeat (first | assumption | exact Ext.refl _ | refine Ext.alloc ?_ _ | refine Ext.drew ?_ | refine Ext.drewN ?_ _ | refine Ext.setCell ?_ (by first | (simp; done) | omega | (simp; omega)) _ | refine Ext.trans (by assumption) ?_)))).mono ?_
        rintro e w1 ⟨rfl, hx1⟩
        have k1 : Ext w w1 := Ext.trans ((by repeat (first | assumption | exact Ext.refl _ | refine Ext.alloc ?_ _ | refine Ext.drew ?_ | refine Ext.drewN ?_ _ | refine Ext.setCell ?_ (by first | (simp; done) | omega | (simp; omega)) _ | refine Ext.trans (by assumption) ?_))) hx1
        have t0 := hx1.cell (p := ⟨w.heap.size, 0, none⟩) (v := .slice A n c) (by first | (simp; done) | (simp (maxDischargeDepth := 7) [go_sem]; done))
        go_wp2
        go_ret
        exact ⟨by first | rfl | (show _ = Ending.returned (Value.bool false); rw [← g1]; rfl), k1⟩
      · rw [decide_eq_false (fun g => h1 g.2)]
        have g1 : decide (i < (n : Int)) = false := decide_eq_false h1
        go_enter Try.func28, Try.ntmps28
        go_wp2_with fail
        refine (HM.out true hm _ ((by repeat (first | assumption | exact Ext.refl _ | refine Ext.alloc ?_ _ | refine Ext.drew ?_ | refine Ext.drewN ?_ _ | refine Ext.setCell ?_ (by first | (simp; done) | omega | (simp; omega)) _ | refine Ext.trans (by assumption) ?_)))).mono ?_
        rintro e w1 ⟨rfl, hx1⟩
        have k1 : Ext w w1 := Ext.trans ((by repeat (first | assumption | exact Ext.refl _ | refine Ext.alloc ?_ _ | refine Ext.drew ?_ | refine Ext.drewN ?_ _ | refine Ext.setCell ?_ (by first | (simp; done) | omega | (simp; omega)) _ | refine Ext.trans (by assumption) ?_))) hx1
        have t0 := hx1.cell (p := ⟨w.heap.size, 0, none⟩) (v := .slice A n c) (by first | (simp; done) | (simp (maxDischargeDepth := 7) [go_sem]; done))
        go_wp2
        go_ret
        exact ⟨by first | rfl | (show _ = Ending.returned (Value.bool false); rw [← g1]; rfl), k1⟩
    · rw [decide_eq_false (fun g => h0 g.1)]
      go_enter Try.func28, Try.ntmps28
      go_wp2_with fail
      refine (HM.out true hm _ ((by repeat (first | assumption | exact Ext.refl _ | refine Ext.alloc ?_ _ | refine Ext.drew ?_ | refine Ext.drewN ?_ _ | refine Ext.setCell ?_ (by first | (simp; done) | omega | (simp; omega)) _ | refine Ext.trans (by assumption) ?_)))).mono ?_
      rintro e w1 ⟨rfl, hx1⟩
      have k1 : Ext w w1 := Ext.trans ((by repeat (first | assumption | exact Ext.refl _ | refine Ext.alloc ?_ _ | refine Ext.drew ?_ | refine Ext.drewN ?_ _ | refine Ext.setCell ?_ (by first | (simp; done) | omega | (simp; omega)) _ | refine Ext.trans (by assumption) ?_))) hx1
      have t0 := hx1.cell (p := ⟨w.heap.size, 0, none⟩) (v := .slice A n c) (by first | (simp; done) | (simp (maxDischargeDepth := 7) [go_sem]; done))
      go_wp2
      go_ret
      exact ⟨by first | rfl | (show _ = Ending.returned (Value.bool false); rw [← g1]; rfl), k1⟩
theorem r7is_is (A : Option Addr) (n c : Nat) (NS : List Node) (i : Int) (b : Bool) (hb : Tree.isV NS i = b) (w : World) (h : NL w A n c NS) :
    Calls Try.prog 28 #[.agg #[.slice A n c], .int .i64 i] w fun e w' => e = .returned (.bool b) ∧ Ext w w' := by subst hb; exact r7is_any A n c NS i w h
set_option maxHeartbeats 2000000 in
theorem r7up_any (A : Option Addr) (n c : Nat) (NS : List Node) (i m : Int) (hm2 : m ≤ 9223372036854775807) (w : World) (h : NL w A n c NS) :
    Calls Try.prog 14 #[.agg #[.slice A n c], .int .i64 i, .int .i64 m] w fun e w' => e = .returned (.int .i64 (Skip.upV NS i m)) ∧ Ext w w' := by
  have hlen := h.len
  have hroom := h.row.room
  have HI := Lib.hid (fun b (hb : Tree.isV NS i = b) W (k : Ext w W) => r7is_is A n c NS i b hb W (h.ext k))
  have HV := Lib.hid (fun W (k : Ext w W) => h.ext k)
  cases hq : Tree.isV NS i with
  | false =>
    have e : Skip.upV NS i m = -1 := by unfold Skip.upV; rw [hq]; simp
    rw [e]
    replace HI := Lib.hid (fun W (kx : Ext w W) => HI.out false hq W kx)
    go_enter Try.func14, Try.ntmps14
    go_wp2_with fail
    refine (HI.out _ ((by repeat (first | assumption | exact Ext.refl _ | refine Ext.alloc ?_ _ | refine Ext.drew ?_ | refine Ext.drewN ?_ _ | refine Ext.setCell ?_ (by first | (simp; done) | omega | (simp; omega)) _ | refine Ext.trans (by assumption) ?_)))).mono ?_
    rintro e w1 ⟨rfl, hx1⟩
    have k1 : Ext w w1 := Ext.trans ((by repeat (first | assumption | exact Ext.refl _ | refine Ext.alloc ?_ _ | refine Ext.drew ?_ | refine Ext.drewN ?_ _ | refine Ext.setCell ?_ (by first | (simp; done) | omega | (simp; omega)) _ | refine Ext.trans (by assumption) ?_))) hx1
    have t0 := hx1.cell (p := ⟨w.heap.size, 0, none⟩) (v := .slice A n c) (by first | (simp; done) | (simp (maxDischargeDepth := 7) [go_sem]; done))
    go_wp2
    go_ret
    exact ⟨rfl, k1⟩
  | true =>
    have hm : Tree.mayV NS = true := by unfold Tree.isV at hq; simp at hq; exact hq.1
    have hr : 0 ≤ i ∧ i < n := by unfold Tree.isV at hq; rw [hm, hlen] at hq; simpa using hq
    obtain ⟨i, rfl⟩ := Int.eq_ofNat_of_zero_le hr.1
    have hin : i < n := by omega
    by_cases m0 : m < 0
    · have e : Skip.upV NS i m = -1 := by unfold Skip.upV; rw [if_neg (by omega)]
      rw [e]
      replace HI := Lib.hid (fun W (kx : Ext w W) => HI.out true hq W kx)
      have q1 : decide (m < 0) = true := decide_eq_true m0
      go_enter Try.func14, Try.ntmps14
      go_wp2_with fail
      refine (HI.out _ ((by repeat (first | assumption | exact Ext.refl _ | refine Ext.alloc ?_ _ | refine Ext.drew ?_ | refine Ext.drewN ?_ _ | refine Ext.setCell ?_ (by first | (simp; done) | omega | (simp; omega)) _ | refine Ext.trans (by assumption) ?_)))).mono ?_
      rintro e w1 ⟨rfl, hx1⟩
      have k1 : Ext w w1 := Ext.trans ((by repeat (first | assumption | exact Ext.refl _ | refine Ext.alloc ?_ _ | refine Ext.drew ?_ | refine Ext.drewN ?_ _ | refine Ext.setCell ?_ (by first | (simp; done) | omega | (simp; omega)) _ | refine Ext.trans (by assumption) ?_))) hx1
      have t0 := hx1.cell (p := ⟨w.heap.size, 0, none⟩) (v := .slice A n c) (by first | (simp; done) | (simp (maxDischargeDepth := 7) [go_sem]; done))
      go_wp2
      go_ret
      exact ⟨rfl, k1⟩
    have q1 : decide (m < 0) = false := decide_eq_false m0
    obtain ⟨m, rfl⟩ := Int.eq_ofNat_of_zero_le (show 0 ≤ m by omega)
    have e : Skip.upV NS i m = Skip.anc NS i m := by unfold Skip.upV; rw [if_pos ⟨hq, by omega⟩]; rfl
    rw [e]
    replace HI := Lib.hid (fun W (kx : Ext w W) => HI.out true hq W kx)
    have HMA := Lib.hid hm
    obtain ⟨Z, hZ⟩ : ∃ Z, Skip.anc NS i m = Z := ⟨_, rfl⟩
    rw [hZ]
    clear e hq h hm
    go_enter Try.func14, Try.ntmps14
    go_wp2_with fail
    refine (HI.out _ ((by repeat (first | assumption | exact Ext.refl _ | refine Ext.alloc ?_ _ | refine Ext.drew ?_ | refine Ext.drewN ?_ _ | refine Ext.setCell ?_ (by first | (simp; done) | omega | (simp; omega)) _ | refine Ext.trans (by assumption) ?_)))).mono ?_
    rintro e w1 ⟨rfl, hx1⟩
    have k1 : Ext w w1 := Ext.trans ((by repeat (first | assumption | exact Ext.refl _ | refine Ext.alloc ?_ _ | refine Ext.drew ?_ | refine Ext.drewN ?_ _ | refine Ext.setCell ?_ (by first | (simp; done) | omega | (simp; omega)) _ | refine Ext.trans (by assumption) ?_))) hx1
    have t0 := hx1.cell (p := ⟨w.heap.size, 0, none⟩) (v := .slice A n c) (by first | (simp; done) | (simp (maxDischargeDepth := 7) [go_sem]; done))
    clear HI
    have T0 := Lib.hid t0
    go_wp2
    clear t0
    go_loopw [1, 2] (fun a' m' wr => ∃ (a : Int) (q : Nat), a' = .int .i64 a ∧ m' = .int .i64 q ∧ q ≤ 9223372036854775807 ∧ -1 ≤ a ∧ a < n ∧ ((a = -1 ∧ Z = -1) ∨ ∃ p : Nat, a = p ∧ Skip.anc NS p q = Z) ∧ Ext w1 wr) (fun a' _ _ => (intOf a' + 1).toNat)
    case atStart => exact ⟨i, m, rfl, rfl, by omega, by omega, by omega, .inr ⟨i, rfl, hZ⟩, Ext.refl _⟩
    case round =>
      obtain ⟨a, q, rfl, rfl, hq63, ha1, ha2, hor, hx⟩ := hrel
      have t0 := hx.cell T0.out
      rcases hor with ⟨rfl, rfl⟩ | ⟨p, rfl, hpz⟩
      · by_cases q0 : 0 < q
        · have g0 : (0 : Int) < q := by omega
          go_wp2
          go_ret
          exact ⟨rfl, k1.trans hx⟩
        · have g0 : ¬ (0 : Int) < q := by omega
          go_wp2
          go_ret
          exact ⟨rfl, k1.trans hx⟩
      · by_cases q0 : 0 < q
        · have g0 : (0 : Int) < q := by omega
          have hpn : p < n := by omega
          have hst := Skip.anc_step (T := NS) (p := p) q0
          rw [hpz] at hst
          obtain ⟨b, off, rfl, hrx, hokx⟩ := (HV.out _ (k1.trans hx)).at' hpn
          have d0 := rangeAt_head hrx (Node.at32 hokx)
          change World.cell? _ _ = some (.int .i64 (Tree.nd NS p).par) at d0
          by_cases p0 : p = 0
          · rw [if_pos p0] at hst
            have hpar : (Tree.nd NS p).par = -1 := by rw [p0]; exact Tree.par_zero HMA.out
            rw [hpar] at d0
            have HST := Lib.hid hst
            clear hst hpz hpar hrx hokx p0
            go_wp2
            go_roundw
            case rel => exact ⟨-1, q - 1, rfl, by go_num, by omega, by omega, by omega, .inl ⟨rfl, HST.out⟩, hx⟩
            case measure => first | (simp [intOf]; done) | (simp [intOf]; omega)
          · rw [if_neg p0] at hst
            obtain ⟨_, _, hpar⟩ := Tree.par_pos HMA.out (i := p) (by omega) p0
            have hul := Tree.up_lt NS p0
            rw [hpar] at d0
            generalize Tree.up NS p = u at *
            have HST := Lib.hid hst
            clear hst hpz hpar hrx hokx p0
            go_wp2
            go_roundw
            case rel => exact ⟨u, q - 1, rfl, by go_num, by omega, by omega, by omega, .inr ⟨u, rfl, HST.out.symm⟩, hx⟩
            case measure => first | (simp [intOf]; done) | (simp [intOf]; omega)
        · obtain rfl : q = 0 := by omega
          rw [Skip.anc_zero] at hpz
          have HZ := Lib.hid hpz
          clear hpz
          go_wp2
          go_ret
          exact ⟨by rw [← HZ.out]; rfl, k1.trans hx⟩
set_option maxHeartbeats 2000000 in
theorem r7deep_any (A : Option Addr) (n c : Nat) (NS : List Node) (i : Int) (w : World) (h : NL w A n c NS) :
    Calls Try.prog 16 #[.agg #[.slice A n c], .int .i64 i] w fun e w' => e = .returned (.int .i64 (Skip.deepV NS i)) ∧ Ext w w' := by
  have hlen := h.len
  have hroom := h.row.room
  have HI := Lib.hid (fun b (hb : Tree.isV NS i = b) W (k : Ext w W) => r7is_is A n c NS i b hb W (h.ext k))
  have HV := Lib.hid (fun W (k : Ext w W) => h.ext k)
  cases hq : Tree.isV NS i with
  | false =>
    have e : Skip.deepV NS i = -1 := by unfold Skip.deepV; rw [hq]; rfl
    rw [e]
    replace HI := Lib.hid (fun W (kx : Ext w W) => HI.out false hq W kx)
    go_enter Try.func16, Try.ntmps16
    go_wp2_with fail
    refine (HI.out _ ((by repeat (first | assumption | exact Ext.refl _ | refine Ext.alloc ?_ _ | refine Ext.drew ?_ | refine Ext.drewN ?_ _ | refine Ext.setCell ?_ (by first | (simp; done) | omega | (simp; omega)) _ | refine Ext.trans (by assumption) ?_)))).mono ?_
    rintro e w1 ⟨rfl, hx1⟩
    have k1 : Ext w w1 := Ext.trans ((by repeat (first | assumption | exact Ext.refl _ | refine Ext.alloc ?_ _ | refine Ext.drew ?_ | refine Ext.drewN ?_ _ | refine Ext.setCell ?_ (by first | (simp; done) | omega | (simp; omega)) _ | refine Ext.trans (by assumption) ?_))) hx1
    have t0 := hx1.cell (p := ⟨w.heap.size, 0, none⟩) (v := .slice A n c) (by first | (simp; done) | (simp (maxDischargeDepth := 7) [go_sem]; done))
    go_wp2
    go_ret
    exact ⟨rfl, k1⟩
  | true =>
    have hm : Tree.mayV NS = true := by unfold Tree.isV at hq; simp at hq; exact hq.1
    have hr : 0 ≤ i ∧ i < n := by unfold Tree.isV at hq; rw [hm, hlen] at hq; simpa using hq
    obtain ⟨i, rfl⟩ := Int.eq_ofNat_of_zero_le hr.1
    have hin : i < n := by omega
    have h12 := Tree.len_le hm
    rw [hlen] at h12
    have e : Skip.deepV NS i = (Skip.deepN NS i : Nat) := by unfold Skip.deepV; rw [hq]; rfl
    rw [e]
    have hdi := Skip.deep_le NS i
    replace HI := Lib.hid (fun W (kx : Ext w W) => HI.out true hq W kx)
    have HMA := Lib.hid hm
    obtain ⟨D, hD⟩ : ∃ D, Skip.deepN NS i = D := ⟨_, rfl⟩
    rw [hD] at hdi ⊢
    clear e hq h hm
    go_enter Try.func16, Try.ntmps16
    go_wp2_with fail
    refine (HI.out _ ((by repeat (first | assumption | exact Ext.refl _ | refine Ext.alloc ?_ _ | refine Ext.drew ?_ | refine Ext.drewN ?_ _ | refine Ext.setCell ?_ (by first | (simp; done) | omega | (simp; omega)) _ | refine Ext.trans (by assumption) ?_)))).mono ?_
    rintro e w1 ⟨rfl, hx1⟩
    have k1 : Ext w w1 := Ext.trans ((by repeat (first | assumption | exact Ext.refl _ | refine Ext.alloc ?_ _ | refine Ext.drew ?_ | refine Ext.drewN ?_ _ | refine Ext.setCell ?_ (by first | (simp; done) | omega | (simp; omega)) _ | refine Ext.trans (by assumption) ?_))) hx1
    have t0 := hx1.cell (p := ⟨w.heap.size, 0, none⟩) (v := .slice A n c) (by first | (simp; done) | (simp (maxDischargeDepth := 7) [go_sem]; done))
    clear HI
    have T0 := Lib.hid t0
    go_wp2
    clear t0
    go_loopw [1, 6] (fun a' m' wr => ∃ (p q : Nat), p < n ∧ a' = .int .i64 p ∧ m' = .int .i64 q ∧ q + Skip.deepN NS p = D ∧ Ext w1 wr) (fun a' _ _ => (intOf a').toNat)
    case atStart => exact ⟨i, 0, hin, rfl, rfl, by omega, Ext.refl _⟩
    case round =>
      obtain ⟨p, q, hpn, rfl, rfl, hs, hx⟩ := hrel
      have t0 := hx.cell T0.out
      by_cases p0 : 0 < p
      · have g0 : (0 : Int) < p := by omega
        have gpn : (p : Int) < n := by omega
        obtain ⟨b, off, rfl, hrx, hokx⟩ := (HV.out _ (k1.trans hx)).at' hpn
        have d0 := rangeAt_head hrx (Node.at32 hokx)
        change World.cell? _ _ = some (.int .i64 (Tree.nd NS p).par) at d0
        obtain ⟨_, _, hpar⟩ := Tree.par_pos HMA.out (i := p) (by omega) (by omega)
        have hul := Tree.up_lt NS (k := p) (by omega)
        have hdp := Skip.deep_pos (T := NS) (i := p) (by omega)
        rw [hpar] at d0
        rw [hdp] at hs
        have hq12 : q ≤ 12 := by omega
        generalize Tree.up NS p = u at *
        have HS := Lib.hid hs
        clear hpar hrx hokx hdp hs
        go_wp2
        go_roundw
        case rel => exact ⟨u, q + 1, by omega, rfl, by go_num, by have := HS.out; omega, hx⟩
        case measure => first | (simp [intOf]; done) | (simp [intOf]; omega)
      · obtain rfl : p = 0 := by omega
        rw [Skip.deep_zero] at hs
        obtain rfl : q = D := by omega
        go_wp2
        go_ret
        exact ⟨rfl, k1.trans hx⟩
set_option maxHeartbeats 2000000 in
theorem r6at_any (A : Option Addr) (n c : Nat) (NS : List Node) (i : Int) (s : Nat) (hs : s < 18446744073709551616) (w : World) (h : NL w A n c NS) :
    Calls Try.prog 18 #[.agg #[.slice A n c], .int .i64 i, .int .u64 s] w fun e w' => e = .returned (.int .i64 (Tree.atV NS i s)) ∧ Ext w w' := by
  have hlen := h.len
  have hroom := h.row.room
  have HI := Lib.hid (fun b (hb : Tree.isV NS i = b) W (k : Ext w W) => ris_is A n c NS i b hb W (h.ext k))
  have HV := Lib.hid (fun W (k : Ext w W) => h.ext k)
  cases hq : Tree.isV NS i with
  | false =>
    have e : Tree.atV NS i s = -1 := by unfold Tree.atV; rw [hq]; rfl
    rw [e]
    replace HI := Lib.hid (fun W (kx : Ext w W) => HI.out false hq W kx)
    go_enter Try.func18, Try.ntmps18
    go_wp2_with fail
    refine (HI.out _ ((by repeat (first | assumption | exact Ext.refl _ | refine Ext.alloc ?_ _ | refine Ext.drew ?_ | refine Ext.drewN ?_ _ | refine Ext.setCell ?_ (by first | (simp; done) | omega | (simp; omega)) _ | refine Ext.trans (by assumption) ?_)))).mono ?_
    rintro e w1 ⟨rfl, hx1⟩
    have k1 : Ext w w1 := Ext.trans ((by repeat (first | assumption | exact Ext.refl _ | refine Ext.alloc ?_ _ | refine Ext.drew ?_ | refine Ext.drewN ?_ _ | refine Ext.setCell ?_ (by first | (simp; done) | omega | (simp; omega)) _ | refine Ext.trans (by assumption) ?_))) hx1
    have t0 := hx1.cell (p := ⟨w.heap.size, 0, none⟩) (v := .slice A n c) (by first | (simp; done) | (simp (maxDischargeDepth := 7) [go_sem]; done))
    go_wp2
    go_ret
    exact ⟨rfl, k1⟩
  | true =>
    have hm : Tree.mayV NS = true := by unfold Tree.isV at hq; simp at hq; exact hq.1
    have hr : 0 ≤ i ∧ i < n := by unfold Tree.isV at hq; rw [hm, hlen] at hq; simpa using hq
    obtain ⟨i, rfl⟩ := Int.eq_ofNat_of_zero_le hr.1
    have hin : i < n := by omega
    have e : Tree.atV NS i s = Skip.climbV NS (fun x => decide ((Tree.nd NS x).slot ≤ s)) i := by unfold Tree.atV; rw [hq]; rfl
    rw [e]
    replace HI := Lib.hid (fun W (kx : Ext w W) => HI.out true hq W kx)
    have HMA := Lib.hid hm
    obtain ⟨Z, hZ⟩ : ∃ Z, Skip.climbV NS (fun x => decide ((Tree.nd NS x).slot ≤ s)) i = Z := ⟨_, rfl⟩
    rw [hZ]
    clear e hq h hm
    go_enter Try.func18, Try.ntmps18
    go_wp2_with fail
    refine (HI.out _ ((by repeat (first | assumption | exact Ext.refl _ | refine Ext.alloc ?_ _ | refine Ext.drew ?_ | refine Ext.drewN ?_ _ | refine Ext.setCell ?_ (by first | (simp; done) | omega | (simp; omega)) _ | refine Ext.trans (by assumption) ?_)))).mono ?_
    rintro e w1 ⟨rfl, hx1⟩
    have k1 : Ext w w1 := Ext.trans ((by repeat (first | assumption | exact Ext.refl _ | refine Ext.alloc ?_ _ | refine Ext.drew ?_ | refine Ext.drewN ?_ _ | refine Ext.setCell ?_ (by first | (simp; done) | omega | (simp; omega)) _ | refine Ext.trans (by assumption) ?_))) hx1
    have t0 := hx1.cell (p := ⟨w.heap.size, 0, none⟩) (v := .slice A n c) (by first | (simp; done) | (simp (maxDischargeDepth := 7) [go_sem]; done))
    clear HI
    have T0 := Lib.hid t0
    go_wp2
    clear t0
    go_loopw [1] (fun a' wr => ∃ (a : Int), a' = .int .i64 a ∧ -1 ≤ a ∧ a < n ∧ ((a = -1 ∧ Z = -1) ∨ ∃ p : Nat, a = p ∧ Skip.climbV NS (fun x => decide ((Tree.nd NS x).slot ≤ s)) p = Z) ∧ Ext w1 wr) (fun a' _ => (intOf a' + 1).toNat)
    case atStart => exact ⟨i, rfl, by omega, by omega, .inr ⟨i, rfl, hZ⟩, Ext.refl _⟩
    case round =>
      obtain ⟨a, rfl, ha1, ha2, hor, hx⟩ := hrel
      have t0 := hx.cell T0.out
      rcases hor with ⟨rfl, rfl⟩ | ⟨p, rfl, hpz⟩
      · go_wp2
        go_ret
        exact ⟨rfl, k1.trans hx⟩
      · have hpn : p < n := by omega
        obtain ⟨b, off, rfl, hrx, hokx⟩ := (HV.out _ (k1.trans hx)).at' hpn
        have d0 := rangeAt_head hrx (Node.at32 hokx)
        change World.cell? _ _ = some (.int .i64 (Tree.nd NS p).par) at d0
        have d1 := rangeAt_head hrx (Node.at33 hokx)
        change World.cell? _ _ = some (.int .u64 (Tree.nd NS p).slot) at d1
        obtain ⟨x, hxs⟩ : ∃ x, (Tree.nd NS p).slot = x := ⟨_, rfl⟩
        rw [hxs] at d1
        by_cases hsx : s < x
        · have g0 : (s : Int) < x := by omega
          have hst := Skip.climb_step (T := NS) (p := fun x => decide ((Tree.nd NS x).slot ≤ s)) (a := p) (decide_eq_false (by omega))
          rw [hpz] at hst
          by_cases p0 : p = 0
          · rw [if_pos p0] at hst
            have hpar : (Tree.nd NS p).par = -1 := by rw [p0]; exact Tree.par_zero HMA.out
            rw [hpar] at d0
            have HST := Lib.hid hst
            clear hst hpz hpar hrx hokx p0 hxs
            go_wp2
            go_roundw
            case rel => exact ⟨-1, rfl, by omega, by omega, .inl ⟨rfl, HST.out⟩, hx⟩
            case measure => first | (simp [intOf]; done) | (simp [intOf]; omega)
          · rw [if_neg p0] at hst
            obtain ⟨_, _, hpar⟩ := Tree.par_pos HMA.out (i := p) (by omega) p0
            have hul := Tree.up_lt NS p0
            rw [hpar] at d0
            generalize Tree.up NS p = u at *
            have HST := Lib.hid hst
            clear hst hpz hpar hrx hokx p0 hxs
            go_wp2
            go_roundw
            case rel => exact ⟨u, rfl, by omega, by omega, .inr ⟨u, rfl, HST.out.symm⟩, hx⟩
            case measure => first | (simp [intOf]; done) | (simp [intOf]; omega)
        · have g0 : ¬ (s : Int) < x := by omega
          have g1 : decide (s < x) = false := decide_eq_false hsx
          rw [Skip.climb_here (decide_eq_true (by omega))] at hpz
          have HZ := Lib.hid hpz
          clear hpz hrx hokx hxs
          go_wp2
          go_ret
          exact ⟨by rw [← HZ.out]; rfl, k1.trans hx⟩
set_option maxHeartbeats 2000000 in
theorem r7meet_any (A : Option Addr) (n c : Nat) (NS : List Node) (a b : Int) (w : World) (h : NL w A n c NS) :
    Calls Try.prog 20 #[.agg #[.slice A n c], .int .i64 a, .int .i64 b] w fun e w' => e = .returned (.int .i64 (Skip.meetV NS a b)) ∧ Ext w w' := by
  have hlen := h.len
  have hroom := h.row.room
  have HA := Lib.hid (fun (i : Nat) k x (hx : Tree.aboveV NS (i : Int) k = x) W (kx : Ext w W) => (by subst hx; exact rabove_any A n c NS i k W (h.ext kx) : Calls Try.prog 33 #[.agg #[.slice A n c], .int .i64 (i : Int), .int .i64 k] W fun e w' => e = .returned (.bool x) ∧ Ext W w'))
  obtain ⟨Z, hZ⟩ : ∃ Z, Skip.meetV NS a b = Z := ⟨_, rfl⟩
  rw [hZ]
  have HTOP := Lib.hid (fun (i : Nat) h1 h2 h3 => hZ.symm.trans (Skip.meet_top (T := NS) (a := a) (b := b) (i := i) h1 h2 h3))
  have HNIL := Lib.hid (fun h3 => hZ.symm.trans (Skip.meet_nil (T := NS) (a := a) (b := b) h3))
  have HLN := Lib.hid hlen
  clear h hlen hZ
  go_enter Try.func20, Try.ntmps20
  go_wp2
  obtain ⟨w1, hw1⟩ : ∃ w1, w.alloc (.cells #[.slice A n c] 24) = w1 := ⟨_, rfl⟩
  have t1 : w1.cell? ⟨w.heap.size, 0, none⟩ = some (.slice A n c) := by rw [← hw1]; simp
  have k1 : Ext w w1 := by rw [← hw1]; exact (by repeat (first | assumption | exact Ext.refl _ | refine Ext.alloc ?_ _ | refine Ext.drew ?_ | refine Ext.drewN ?_ _ | refine Ext.setCell ?_ (by first | (simp; done) | omega | (simp; omega)) _ | refine Ext.trans (by assumption) ?_))
  rw [hw1]
  have T1 := Lib.hid t1
  clear hw1 t1
  go_loopw [7, 8, 9] (fun i' _ _ wr => ∃ k : Nat, k ≤ n ∧ i' = .int .i64 ((k : Int) - 1) ∧ (∀ y : Nat, k ≤ y → y < n → Tree.aboveV NS (y : Int) a = true → Tree.aboveV NS (y : Int) b = true → False) ∧ Ext w1 wr) (fun i' _ _ _ => (intOf i' + 1).toNat)
  case atStart => exact ⟨n, Nat.le_refl _, rfl, fun y h1 h2 => absurd h1 (by omega), Ext.refl _⟩
  case round =>
    obtain ⟨k, hk, rfl, hno, hx⟩ := hrel
    have kk := k1.trans hx
    have tt := hx.cell T1.out
    cases k with
    | zero =>
      have HE : Hid (Z = -1) := HNIL.out (fun y hy => hno y (by omega) (by rw [HLN.out] at hy; exact hy))
      clear hno
      go_wp2
      go_ret
      exact ⟨by rw [HE.out]; rfl, kk⟩
    | succ k =>
      have ek : ((k + 1 : Nat) : Int) - 1 = (k : Int) := by omega
      rw [ek]
      have hnx := fun (h : Tree.aboveV NS (k : Int) a = true → Tree.aboveV NS (k : Int) b = true → False) (y : Nat) (h1 : k ≤ y) (h2 : y < n) (h3 : Tree.aboveV NS (y : Int) a = true) (h4 : Tree.aboveV NS (y : Int) b = true) => (by
        rcases Nat.lt_or_eq_of_le h1 with h5 | h5
        · exact hno y h5 h2 h3 h4
        · subst h5; exact h h3 h4 : False)
      have htp := fun (h1 : Tree.aboveV NS (k : Int) a = true) (h2 : Tree.aboveV NS (k : Int) b = true) => HTOP.out k h1 h2 (fun y h3 h4 => hno y h3 (by rw [HLN.out] at h4; exact h4))
      have HNX := Lib.hid hnx
      have HTP := Lib.hid htp
      clear hno hnx htp
      obtain ⟨x, hxa⟩ : ∃ x, Tree.aboveV NS (k : Int) a = x := ⟨_, rfl⟩
      obtain ⟨y, hyb⟩ : ∃ x, Tree.aboveV NS (k : Int) b = x := ⟨_, rfl⟩
      rw [hxa, hyb] at HNX HTP
      go_wp2_with fail
      refine (HA.out k a x hxa _ kk).mono ?_
      rintro e w2 ⟨rfl, hx2⟩
      have k2 := hx.trans hx2
      replace tt := hx2.cell tt
      go_wp2_with fail
      refine (HA.out k b y hyb _ (k1.trans k2)).mono ?_
      rintro e w3 ⟨rfl, hx3⟩
      have k3 := k2.trans hx3
      clear hxa hyb
      cases x <;> cases y
      all_goals
        go_wp2
        first
        | (go_ret; exact ⟨by rw [HTP.out (by simp) (by simp)]; rfl, k1.trans k3⟩)
        | (go_roundw
           case rel =>
            have HN := HNX.out (fun h1 h2 => by first | (cases h1; done) | (cases h2; done))
            first | exact ⟨k, by omega, by go_num, HN, k3⟩ | (refine ⟨_, _, ⟨k, by omega, ?_, HN, k3⟩, rfl, rfl⟩; go_num)
           case measure => first | (simp [intOf]; done) | (simp [intOf]; omega))
theorem Skip.row_ok {T : List Node} {i : Nat} (hi : i ≤ 17592186043904) : Row4 (Skip.rowI T i) := by
  refine ⟨rfl, fun x hx => ?_⟩
  have hl : ∀ k, (Lit.int .i64 (Skip.leap T i k)).wf = true := fun k => by
    rcases Skip.leap_cases T i k with ⟨h, _⟩ | ⟨a, h, _, _, hlt, _⟩
    · rw [h]; decide
    · rw [h]; exact wf_i64 (by omega) (by omega)
  unfold Skip.rowI at hx
  simp at hx
  rcases hx with rfl | rfl | rfl | rfl <;> exact hl _
set_option maxHeartbeats 2000000 in
theorem r7same_any (A : Option Addr) (n c : Nat) (B : Option Addr) (d : Nat) (NS : List Node) (w : World) (h : Tab w A n c NS) (g : Tab w B n d NS) :
    Calls Try.prog 10 #[.slice A n c, .slice B n d] w fun e w' => e = .returned (.bool true) ∧ Ext w w' := by
  have hroom := h.row.room
  have H1 := Lib.hid (fun W (k : Ext w W) => h.ext k)
  have H2 := Lib.hid (fun W (k : Ext w W) => g.ext k)
  have gne : ((n : Int) != n) = false := by simp
  clear h g
  go_enter Try.func10, Try.ntmps10
  go_wp2
  go_loopw [5] (fun i' wr => ∃ k : Nat, k ≤ n ∧ i' = .int .i64 k ∧ Ext w wr) (fun i' _ => n - (intOf i').toNat)
  case atStart => exact ⟨0, Nat.zero_le _, rfl, Ext.refl _⟩
  case round =>
    obtain ⟨k, hk, rfl, hx⟩ := hrel
    by_cases hlt : k < n
    · obtain ⟨b, off, rfl, r1⟩ := (H1.out _ hx).at' hlt
      obtain ⟨b2, off2, rfl, r2⟩ := (H2.out _ hx).at' hlt
      have hi4 : (Try.prog.info? 41).map (·.size) = some (Skip.rowC NS k).length := by kernel_rfl
      have heq : ∀ W, (binOp .neq 41 (.agg (Skip.rowC NS k).toArray) (.agg (Skip.rowC NS k).toArray)).run Try.prog W = .ok (.bool false) W := fun W => row4_neq (Skip.row_ok (by omega)) (Skip.row_ok (by omega)) (b := true) (by simp) W
      have gk : (k : Int) < n := by omega
      generalize Skip.rowC NS k = R at *
      go_wp2
      refine wp_region_quiet_lit (by kernel_rfl) (by kernel_rfl) ?_
      repeat (first | go_big_quiet_skip | (go_big_quiet_want; first | ((first | (refine quiet_load_mid 41 _ rfl _ _ rfl R _ (fun W ⟨p, hp⟩ => hp ▸ rangeAt_ext r1 ((Ext.refl _).drewN p)) Try.underlying41 rfl hi4 ?_) | (refine quiet_load_mid 41 _ rfl _ _ rfl R _ (fun W ⟨p, hp⟩ => hp ▸ rangeAt_ext r2 ((Ext.refl _).drewN p)) Try.underlying41 rfl hi4 ?_)); (try simp only [Act.put, List.setIfInBounds_toArray, List.set_cons_zero, List.set_cons_succ]); go_big_quiet_on) | (go_big_quiet_op; first | go_big_quiet_on | go_big_quiet_call (fail))))
      refine wpQuiet_nil ?_
      intro _ hw'
      obtain ⟨nq', hw''⟩ := hw'
      subst hw''
      go_wp2
      go_roundw
      case rel => exact ⟨k + 1, by omega, by go_num, hx.drewN _⟩
      case measure => first | (simp [intOf]; done) | (simp [intOf]; omega)
    · have gk : ¬ (k : Int) < n := by omega
      go_wp2
      go_ret
      exact ⟨rfl, hx⟩
end Go.Proofs.Ytomobdlbopbpeaa
