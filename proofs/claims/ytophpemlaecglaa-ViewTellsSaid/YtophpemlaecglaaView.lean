/- The contracts of layer 10 (view): Leaf, From. -/
import Derived.Test.YtophpemlaecglaaTreeUp
import Derived.Test.YtophpemlaecglaaTreeKids
namespace Go.Proofs.Ytophpemlaecglaa
open Go.RowKit Go.WideShapes Go.ChangeShapes
set_option linter.unusedVariables false
set_option linter.unusedSimpArgs false





namespace View
open Tree
def leafV (T : List Node) (just : Nat) (f i : Int) : Bool := aboveV T f i && decide ((kidsV T i).length = 0) && decide (just ≤ (nd T i.toNat).just)
def fromV (T : List Node) (r : List Int) (f : Int) : Int := if aboveV T f (findV T r) = true then findV T r else if aboveV T f f = true then f else -1
theorem above_in {T : List Node} {f i : Int} (h : aboveV T f i = true) : mayV T = true ∧ (0 ≤ f ∧ f < T.length) ∧ 0 ≤ i ∧ i < T.length := by
  unfold aboveV isV at h
  simp only [Bool.and_eq_true, decide_eq_true_eq] at h
  exact ⟨h.1.1.1, h.1.1.2, h.1.2.2⟩
end View
set_option maxHeartbeats 1000000 in
theorem vleaf_any (A : Option Addr) (n c : Nat) (NS : List Node) (j : Nat) (hj : j < 18446744073709551616) (f i : Int) (hf : (Lit.int .i64 f).wf = true) (hi : (Lit.int .i64 i).wf = true) (w : World) (h : NL w A n c NS) :
    Calls Try.prog 14 #[.agg #[.slice A n c], .int .u64 j, .int .i64 f, .int .i64 i] w fun e w' => e = .returned (.bool (View.leafV NS j f i)) ∧ Ext w w' := by
  have hlen := h.len
  have hroom := h.row.room
  have HA := Lib.hid (fun b (hb : Tree.aboveV NS f i = b) W (kx : Ext w W) => above_is A n c NS f i hf hi b hb W (h.ext kx))
  have HK := Lib.hid (fun W (kx : Ext w W) => kids_any A n c NS i hi W (h.ext kx))
  cases hb : Tree.aboveV NS f i with
  | false =>
    have e : View.leafV NS j f i = false := by unfold View.leafV; rw [hb]; rfl
    rw [e]
    go_enter Try.func14, Try.ntmps14
    go_wp2_with fail
    refine (HA.out false hb _ ((by repeat (first | assumption | exact Ext.refl _ | refine Ext.alloc ?_ _ | refine Ext.drew ?_ | refine Ext.drewN ?_ _ | refine Ext.setCell ?_ (by first | (simp; done) | omega | (simp; omega)) _ | refine Ext.trans (by assumption) ?_)))).mono ?_
    rintro e w1 ⟨rfl, hx1⟩
    have k1 : Ext w w1 := Ext.trans ((by repeat (first | assumption | exact Ext.refl _ | refine Ext.alloc ?_ _ | refine Ext.drew ?_ | refine Ext.drewN ?_ _ | refine Ext.setCell ?_ (by first | (simp; done) | omega | (simp; omega)) _ | refine Ext.trans (by assumption) ?_))) hx1
    have t0 := hx1.cell (p := ⟨w.heap.size, 0, none⟩) (v := .slice A n c) (by first | (simp; done) | (simp (maxDischargeDepth := 7) [go_sem]; done))
    go_wp2
    go_ret
    exact ⟨rfl, k1⟩
  | true =>
    obtain ⟨hm, _, i0, i1⟩ := View.above_in hb
    rw [hlen] at i1
    obtain ⟨i, rfl⟩ := Int.eq_ofNat_of_zero_le i0
    have hin : i < n := by omega
    have gi : (i : Int) < n := by omega
    obtain ⟨L, hL⟩ : ∃ L, Tree.kidsV NS i = L := ⟨_, rfl⟩
    rw [hL] at HK
    have e : View.leafV NS j f i = (decide (L.length = 0) && decide (j ≤ (Tree.nd NS i).just)) := by unfold View.leafV; rw [hb, hL]; rfl
    rw [e]
    obtain ⟨b, off, rfl, hr, hok⟩ := h.at' hin
    have d0 := rangeAt_head hr (Node.at34 hok)
    change w.cell? _ = some (.int .u64 (Tree.nd NS i).just) at d0
    generalize (Tree.nd NS i).just = x at d0 e ⊢
    clear e hL hr hok hm
    by_cases hk : L.length = 0
    · rw [decide_eq_true hk, Bool.true_and]
      have HKL := Lib.hid hk
      by_cases hx : j ≤ x
      · rw [decide_eq_true hx]
        have g1 : (j : Int) ≤ x := by omega
        clear hx hk h
        go_enter Try.func14, Try.ntmps14
        go_wp2_with fail
        refine (HA.out true hb _ ((by repeat (first | assumption | exact Ext.refl _ | refine Ext.alloc ?_ _ | refine Ext.drew ?_ | refine Ext.drewN ?_ _ | refine Ext.setCell ?_ (by first | (simp; done) | omega | (simp; omega)) _ | refine Ext.trans (by assumption) ?_)))).mono ?_
        rintro e w1 ⟨rfl, hx1⟩
        have k1 : Ext w w1 := Ext.trans ((by repeat (first | assumption | exact Ext.refl _ | refine Ext.alloc ?_ _ | refine Ext.drew ?_ | refine Ext.drewN ?_ _ | refine Ext.setCell ?_ (by first | (simp; done) | omega | (simp; omega)) _ | refine Ext.trans (by assumption) ?_))) hx1
        have t0 := hx1.cell (p := ⟨w.heap.size, 0, none⟩) (v := .slice (some ⟨b, off, none⟩) n c) (by first | (simp; done) | (simp (maxDischargeDepth := 7) [go_sem]; done))
        go_wp2_with fail
        refine (HK.out _ k1).mono ?_
        rintro e w2 ⟨⟨v, rfl, ⟨KA, m, d, rfl, hK⟩⟩, hx2⟩
        obtain rfl : m = 0 := by have := hK.len; rw [HKL.out] at this; exact this.symm
        have k2 : Ext w w2 := k1.trans hx2
        replace t0 := hx2.cell t0
        replace d0 := k2.cell d0
        clear hK
        go_wp2
        go_ret
        exact ⟨rfl, k2⟩
      · rw [decide_eq_false hx]
        have g1 : decide ((j : Int) ≤ x) = false := decide_eq_false (by omega)
        have g2 : decide (j ≤ x) = false := decide_eq_false hx
        clear hx hk h
        go_enter Try.func14, Try.ntmps14
        go_wp2_with fail
        refine (HA.out true hb _ ((by repeat (first | assumption | exact Ext.refl _ | refine Ext.alloc ?_ _ | refine Ext.drew ?_ | refine Ext.drewN ?_ _ | refine Ext.setCell ?_ (by first | (simp; done) | omega | (simp; omega)) _ | refine Ext.trans (by assumption) ?_)))).mono ?_
        rintro e w1 ⟨rfl, hx1⟩
        have k1 : Ext w w1 := Ext.trans ((by repeat (first | assumption | exact Ext.refl _ | refine Ext.alloc ?_ _ | refine Ext.drew ?_ | refine Ext.drewN ?_ _ | refine Ext.setCell ?_ (by first | (simp; done) | omega | (simp; omega)) _ | refine Ext.trans (by assumption) ?_))) hx1
        have t0 := hx1.cell (p := ⟨w.heap.size, 0, none⟩) (v := .slice (some ⟨b, off, none⟩) n c) (by first | (simp; done) | (simp (maxDischargeDepth := 7) [go_sem]; done))
        go_wp2_with fail
        refine (HK.out _ k1).mono ?_
        rintro e w2 ⟨⟨v, rfl, ⟨KA, m, d, rfl, hK⟩⟩, hx2⟩
        obtain rfl : m = 0 := by have := hK.len; rw [HKL.out] at this; exact this.symm
        have k2 : Ext w w2 := k1.trans hx2
        replace t0 := hx2.cell t0
        replace d0 := k2.cell d0
        clear hK
        go_wp2
        go_ret
        exact ⟨rfl, k2⟩
    · rw [decide_eq_false hk, Bool.false_and]
      have HKL := Lib.hid hk
      clear hk h
      go_enter Try.func14, Try.ntmps14
      go_wp2_with fail
      refine (HA.out true hb _ ((by repeat (first | assumption | exact Ext.refl _ | refine Ext.alloc ?_ _ | refine Ext.drew ?_ | refine Ext.drewN ?_ _ | refine Ext.setCell ?_ (by first | (simp; done) | omega | (simp; omega)) _ | refine Ext.trans (by assumption) ?_)))).mono ?_
      rintro e w1 ⟨rfl, hx1⟩
      have k1 : Ext w w1 := Ext.trans ((by repeat (first | assumption | exact Ext.refl _ | refine Ext.alloc ?_ _ | refine Ext.drew ?_ | refine Ext.drewN ?_ _ | refine Ext.setCell ?_ (by first | (simp; done) | omega | (simp; omega)) _ | refine Ext.trans (by assumption) ?_))) hx1
      have t0 := hx1.cell (p := ⟨w.heap.size, 0, none⟩) (v := .slice (some ⟨b, off, none⟩) n c) (by first | (simp; done) | (simp (maxDischargeDepth := 7) [go_sem]; done))
      go_wp2_with fail
      refine (HK.out _ k1).mono ?_
      rintro e w2 ⟨⟨v, rfl, ⟨KA, m, d, rfl, hK⟩⟩, hx2⟩
      have g1 : ((m : Int) == 0) = false := by have := hK.len; have := HKL.out; simp; omega
      have k2 : Ext w w2 := k1.trans hx2
      replace t0 := hx2.cell t0
      clear hK
      go_wp2
      go_ret
      exact ⟨rfl, k2⟩
theorem vleaf_is (A : Option Addr) (n c : Nat) (NS : List Node) (j : Nat) (hj : j < 18446744073709551616) (f i : Int) (hf : (Lit.int .i64 f).wf = true) (hi : (Lit.int .i64 i).wf = true) (b : Bool) (hb : View.leafV NS j f i = b) (w : World) (h : NL w A n c NS) :
    Calls Try.prog 14 #[.agg #[.slice A n c], .int .u64 j, .int .i64 f, .int .i64 i] w fun e w' => e = .returned (.bool b) ∧ Ext w w' := by
  subst hb; exact vleaf_any A n c NS j hj f i hf hi w h

theorem findV_lo (NS : List Node) (r : List Int) : -1 ≤ Tree.findV NS r ∧ Tree.findV NS r ≤ NS.length := by
  unfold Tree.findV
  split
  · rename_i h
    have := List.idxOf_lt_length_of_mem h.2
    rw [roots_len] at this
    omega
  · omega
set_option maxHeartbeats 1000000 in
theorem vfrom_any (A : Option Addr) (n c : Nat) (NS : List Node) (r : List Int) (hr : RootOk r) (f : Int) (hf : (Lit.int .i64 f).wf = true) (w : World) (h : NL w A n c NS) :
    Calls Try.prog 15 #[.agg #[.slice A n c], .agg (rootC r).toArray, .int .i64 f] w fun e w' => e = .returned (.int .i64 (View.fromV NS r f)) ∧ Ext w w' := by
  have hlen := h.len
  have hroom := h.row.room
  have HA := Lib.hid (fun i b (hi : (Lit.int .i64 i).wf = true) (hb : Tree.aboveV NS f i = b) W (kx : Ext w W) => above_is A n c NS f i hf hi b hb W (h.ext kx))
  have HF := Lib.hid (fun W (kx : Ext w W) => find_any A n c NS r hr W (h.ext kx))
  have hi32 : (Try.prog.info? 27).map (·.size) = some (rootC r).length := by rw [rootC_len hr]; kernel_rfl
  have rR := range_at (w := w.alloc (.cells #[.slice A n c] 24)) (B := w.heap.size + 1) (rootC r) 27 (by simp)
  have hlo := findV_lo NS r
  obtain ⟨x, hx⟩ : ∃ x, Tree.findV NS r = x := ⟨_, rfl⟩
  have hv : View.fromV NS r f = if Tree.aboveV NS f x = true then x else if Tree.aboveV NS f f = true then f else -1 := by unfold View.fromV; rw [hx]
  rw [hv]
  rw [hx] at HF hlo
  have hwx := wf_i64 (x := x) (by omega) (by omega)
  clear hx hv h
  cases hb : Tree.aboveV NS f x with
  | true =>
    rw [if_pos rfl]
    go_enter Try.func15, Try.ntmps15
    go_wp2_with (refine wpList_load_mid rfl 27 _ rfl _ _ rfl (rootC r) _ (rangeAt_ext rR ((by repeat (first | assumption | exact Ext.refl _ | refine Ext.alloc ?_ _ | refine Ext.drew ?_ | refine Ext.drewN ?_ _ | refine Ext.setCell ?_ (by first | (simp; done) | omega | (simp; omega)) _ | refine Ext.trans (by assumption) ?_)))) Try.underlying27 rfl hi32 ?_)
    refine (HF.out _ ((by repeat (first | assumption | exact Ext.refl _ | refine Ext.alloc ?_ _ | refine Ext.drew ?_ | refine Ext.drewN ?_ _ | refine Ext.setCell ?_ (by first | (simp; done) | omega | (simp; omega)) _ | refine Ext.trans (by assumption) ?_)))).mono ?_
    rintro e w1 ⟨rfl, hx1⟩
    have k1 : Ext w w1 := Ext.trans ((by repeat (first | assumption | exact Ext.refl _ | refine Ext.alloc ?_ _ | refine Ext.drew ?_ | refine Ext.drewN ?_ _ | refine Ext.setCell ?_ (by first | (simp; done) | omega | (simp; omega)) _ | refine Ext.trans (by assumption) ?_))) hx1
    have t0 := hx1.cell (p := ⟨w.heap.size, 0, none⟩) (v := .slice A n c) (by first | (simp; done) | (simp (maxDischargeDepth := 7) [go_sem]; done))
    go_wp2_with fail
    refine (HA.out _ true hwx hb _ k1).mono ?_
    rintro e w2 ⟨rfl, hx2⟩
    have k2 : Ext w w2 := k1.trans hx2
    replace t0 := hx2.cell t0
    go_wp2
    go_ret
    exact ⟨rfl, k2⟩
  | false =>
    rw [if_neg (by simp)]
    cases hb2 : Tree.aboveV NS f f with
    | true =>
      rw [if_pos rfl]
      go_enter Try.func15, Try.ntmps15
      go_wp2_with (refine wpList_load_mid rfl 27 _ rfl _ _ rfl (rootC r) _ (rangeAt_ext rR ((by repeat (first | assumption | exact Ext.refl _ | refine Ext.alloc ?_ _ | refine Ext.drew ?_ | refine Ext.drewN ?_ _ | refine Ext.setCell ?_ (by first | (simp; done) | omega | (simp; omega)) _ | refine Ext.trans (by assumption) ?_)))) Try.underlying27 rfl hi32 ?_)
      refine (HF.out _ ((by repeat (first | assumption | exact Ext.refl _ | refine Ext.alloc ?_ _ | refine Ext.drew ?_ | refine Ext.drewN ?_ _ | refine Ext.setCell ?_ (by first | (simp; done) | omega | (simp; omega)) _ | refine Ext.trans (by assumption) ?_)))).mono ?_
      rintro e w1 ⟨rfl, hx1⟩
      have k1 : Ext w w1 := Ext.trans ((by repeat (first | assumption | exact Ext.refl _ | refine Ext.alloc ?_ _ | refine Ext.drew ?_ | refine Ext.drewN ?_ _ | refine Ext.setCell ?_ (by first | (simp; done) | omega | (simp; omega)) _ | refine Ext.trans (by assumption) ?_))) hx1
      have t0 := hx1.cell (p := ⟨w.heap.size, 0, none⟩) (v := .slice A n c) (by first | (simp; done) | (simp (maxDischargeDepth := 7) [go_sem]; done))
      go_wp2_with fail
      refine (HA.out _ false hwx hb _ k1).mono ?_
      rintro e w2 ⟨rfl, hx2⟩
      have k2 : Ext w w2 := k1.trans hx2
      replace t0 := hx2.cell t0
      go_wp2_with fail
      refine (HA.out _ true hf hb2 _ k2).mono ?_
      rintro e w3 ⟨rfl, hx3⟩
      go_wp2
      go_ret
      exact ⟨rfl, k2.trans hx3⟩
    | false =>
      rw [if_neg (by simp)]
      go_enter Try.func15, Try.ntmps15
      go_wp2_with (refine wpList_load_mid rfl 27 _ rfl _ _ rfl (rootC r) _ (rangeAt_ext rR ((by repeat (first | assumption | exact Ext.refl _ | refine Ext.alloc ?_ _ | refine Ext.drew ?_ | refine Ext.drewN ?_ _ | refine Ext.setCell ?_ (by first | (simp; done) | omega | (simp; omega)) _ | refine Ext.trans (by assumption) ?_)))) Try.underlying27 rfl hi32 ?_)
      refine (HF.out _ ((by repeat (first | assumption | exact Ext.refl _ | refine Ext.alloc ?_ _ | refine Ext.drew ?_ | refine Ext.drewN ?_ _ | refine Ext.setCell ?_ (by first | (simp; done) | omega | (simp; omega)) _ | refine Ext.trans (by assumption) ?_)))).mono ?_
      rintro e w1 ⟨rfl, hx1⟩
      have k1 : Ext w w1 := Ext.trans ((by repeat (first | assumption | exact Ext.refl _ | refine Ext.alloc ?_ _ | refine Ext.drew ?_ | refine Ext.drewN ?_ _ | refine Ext.setCell ?_ (by first | (simp; done) | omega | (simp; omega)) _ | refine Ext.trans (by assumption) ?_))) hx1
      have t0 := hx1.cell (p := ⟨w.heap.size, 0, none⟩) (v := .slice A n c) (by first | (simp; done) | (simp (maxDischargeDepth := 7) [go_sem]; done))
      go_wp2_with fail
      refine (HA.out _ false hwx hb _ k1).mono ?_
      rintro e w2 ⟨rfl, hx2⟩
      have k2 : Ext w w2 := k1.trans hx2
      replace t0 := hx2.cell t0
      go_wp2_with fail
      refine (HA.out _ false hf hb2 _ k2).mono ?_
      rintro e w3 ⟨rfl, hx3⟩
      go_wp2
      go_ret
      exact ⟨rfl, k2.trans hx3⟩
theorem vfrom_is (A : Option Addr) (n c : Nat) (NS : List Node) (r : List Int) (hr : RootOk r) (f : Int) (hf : (Lit.int .i64 f).wf = true) (x : Int) (hx : View.fromV NS r f = x) (w : World) (h : NL w A n c NS) :
    Calls Try.prog 15 #[.agg #[.slice A n c], .agg (rootC r).toArray, .int .i64 f] w fun e w' => e = .returned (.int .i64 x) ∧ Ext w w' := by subst hx; exact vfrom_any A n c NS r hr f hf w h
end Go.Proofs.Ytophpemlaecglaa
