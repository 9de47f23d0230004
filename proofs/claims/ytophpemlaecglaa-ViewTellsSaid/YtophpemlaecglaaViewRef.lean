/- The document's answer for layer 10: Leaf, Leads, From. -/
import Derived.Test.YtophpemlaecglaaViewLaw
import Derived.Test.YtophpemlaecglaaTreeRefKids
namespace Go.Proofs.Ytophpemlaecglaa
open Go.RowKit Go.WideShapes Go.ChangeShapes
set_option linter.unusedVariables false
set_option linter.unusedSimpArgs false





set_option maxHeartbeats 1000000 in
theorem rleaf_any (A : Option Addr) (n c : Nat) (NS : List Node) (j : Nat) (hj : j < 18446744073709551616) (f i : Int) (hf : (Lit.int .i64 f).wf = true) (hi : (Lit.int .i64 i).wf = true) (w : World) (h : NL w A n c NS) :
    Calls Try.prog 13 #[.agg #[.slice A n c], .int .u64 j, .int .i64 f, .int .i64 i] w fun e w' => e = .returned (.bool (View.leafV NS j f i)) ∧ Ext w w' := by
  have hlen := h.len
  have hroom := h.row.room
  have HA := Lib.hid (fun b (hb : Tree.aboveV NS f i = b) W (kx : Ext w W) => (by subst hb; exact rabove_any A n c NS f i W (h.ext kx) : Calls Try.prog 24 #[.agg #[.slice A n c], .int .i64 f, .int .i64 i] W fun e w' => e = .returned (.bool b) ∧ Ext W w'))
  have HK := Lib.hid (fun W (kx : Ext w W) => rkids_any A n c NS i hi W (h.ext kx))
  have HV := Lib.hid (fun W (k : Ext w W) => h.ext k)
  cases hb : Tree.aboveV NS f i with
  | false =>
    have e : View.leafV NS j f i = false := by unfold View.leafV; rw [hb]; rfl
    rw [e]
    go_enter Try.func13, Try.ntmps13
    go_wp2_with fail
    refine (HA.out false hb _ ((by repeat (first | assumption | exact Ext.refl _ | refine Ext.alloc ?_ _ | refine Ext.drew ?_ | refine Ext.drewN ?_ _ | refine Ext.setCell ?_ (by first | (simp; done) | omega | (simp; omega)) _ | refine Ext.trans (by assumption) ?_)))).mono ?_
    rintro e w1 ⟨rfl, hx1⟩
    have k1 : Ext w w1 := Ext.trans ((by repeat (first | assumption | exact Ext.refl _ | refine Ext.alloc ?_ _ | refine Ext.drew ?_ | refine Ext.drewN ?_ _ | refine Ext.setCell ?_ (by first | (simp; done) | omega | (simp; omega)) _ | refine Ext.trans (by assumption) ?_))) hx1
    have t0 := hx1.cell (p := ⟨w.heap.size, 0, none⟩) (v := .slice A n c) (by first | (simp; done) | (simp (maxDischargeDepth := 7) [go_sem]; done))
    go_wp2
    go_ret
    exact ⟨rfl, k1⟩
  | true =>
    obtain ⟨hm, _, i0, i1⟩ := View.above_in hb
    rw [hlen] at i1
    obtain ⟨i, rfl⟩ := Int.eq_ofNat_of_zero_le i0
    have hin : i < n := by omega
    have gi : (i : Int) < n := by omega
    obtain ⟨L, hL⟩ : ∃ L, Tree.kidsV NS i = L := ⟨_, rfl⟩
    rw [hL] at HK
    have e : View.leafV NS j f i = (decide (L.length = 0) && decide (j ≤ (Tree.nd NS i).just)) := by unfold View.leafV; rw [hb, hL]; rfl
    rw [e]
    obtain ⟨x, hjx⟩ : ∃ x, (Tree.nd NS i).just = x := ⟨_, rfl⟩
    rw [hjx]
    have HJX := Lib.hid hjx
    clear e hL hm hjx
    by_cases hk : L.length = 0
    · rw [decide_eq_true hk, Bool.true_and]
      have HKL := Lib.hid hk
      by_cases hx : j ≤ x
      · rw [decide_eq_true hx]
        have g1 : (j : Int) ≤ x := by omega
        clear hx hk h
        go_enter Try.func13, Try.ntmps13
        go_wp2_with fail
        refine (HA.out true hb _ ((by repeat (first | assumption | exact Ext.refl _ | refine Ext.alloc ?_ _ | refine Ext.drew ?_ | refine Ext.drewN ?_ _ | refine Ext.setCell ?_ (by first | (simp; done) | omega | (simp; omega)) _ | refine Ext.trans (by assumption) ?_)))).mono ?_
        rintro e w1 ⟨rfl, hx1⟩
        have k1 : Ext w w1 := Ext.trans ((by repeat (first | assumption | exact Ext.refl _ | refine Ext.alloc ?_ _ | refine Ext.drew ?_ | refine Ext.drewN ?_ _ | refine Ext.setCell ?_ (by first | (simp; done) | omega | (simp; omega)) _ | refine Ext.trans (by assumption) ?_))) hx1
        have t0 := hx1.cell (p := ⟨w.heap.size, 0, none⟩) (v := .slice A n c) (by first | (simp; done) | (simp (maxDischargeDepth := 7) [go_sem]; done))
        go_wp2_with fail
        refine (HK.out _ k1).mono ?_
        rintro e w2 ⟨⟨v, rfl, ⟨KA, m, d, rfl, hK⟩⟩, hx2⟩
        have hkm := hK.len
        have k2 : Ext w w2 := k1.trans hx2
        replace t0 := hx2.cell t0
        clear hK
        obtain rfl : m = 0 := by rw [HKL.out] at hkm; exact hkm.symm
        obtain ⟨b, off, rfl, hr, hok⟩ := (HV.out _ k2).at' hin
        have d0 := rangeAt_head hr (Node.at34 hok)
        change World.cell? _ _ = some (.int .u64 (Tree.nd NS i).just) at d0
        rw [HJX.out] at d0
        clear hkm hr hok
        go_wp2
        go_ret
        exact ⟨rfl, k2⟩
      · rw [decide_eq_false hx]
        have g1 : decide ((j : Int) ≤ x) = false := decide_eq_false (by omega)
        have g2 : decide (j ≤ x) = false := decide_eq_false hx
        clear hx hk h
        go_enter Try.func13, Try.ntmps13
        go_wp2_with fail
        refine (HA.out true hb _ ((by repeat (first | assumption | exact Ext.refl _ | refine Ext.alloc ?_ _ | refine Ext.drew ?_ | refine Ext.drewN ?_ _ | refine Ext.setCell ?_ (by first | (simp; done) | omega | (simp; omega)) _ | refine Ext.trans (by assumption) ?_)))).mono ?_
        rintro e w1 ⟨rfl, hx1⟩
        have k1 : Ext w w1 := Ext.trans ((by repeat (first | assumption | exact Ext.refl _ | refine Ext.alloc ?_ _ | refine Ext.drew ?_ | refine Ext.drewN ?_ _ | refine Ext.setCell ?_ (by first | (simp; done) | omega | (simp; omega)) _ | refine Ext.trans (by assumption) ?_))) hx1
        have t0 := hx1.cell (p := ⟨w.heap.size, 0, none⟩) (v := .slice A n c) (by first | (simp; done) | (simp (maxDischargeDepth := 7) [go_sem]; done))
        go_wp2_with fail
        refine (HK.out _ k1).mono ?_
        rintro e w2 ⟨⟨v, rfl, ⟨KA, m, d, rfl, hK⟩⟩, hx2⟩
        have hkm := hK.len
        have k2 : Ext w w2 := k1.trans hx2
        replace t0 := hx2.cell t0
        clear hK
        obtain rfl : m = 0 := by rw [HKL.out] at hkm; exact hkm.symm
        obtain ⟨b, off, rfl, hr, hok⟩ := (HV.out _ k2).at' hin
        have d0 := rangeAt_head hr (Node.at34 hok)
        change World.cell? _ _ = some (.int .u64 (Tree.nd NS i).just) at d0
        rw [HJX.out] at d0
        clear hkm hr hok
        go_wp2
        go_ret
        exact ⟨rfl, k2⟩
    · rw [decide_eq_false hk, Bool.false_and]
      have HKL := Lib.hid hk
      clear hk h
      go_enter Try.func13, Try.ntmps13
      go_wp2_with fail
      refine (HA.out true hb _ ((by repeat (first | assumption | exact Ext.refl _ | refine Ext.alloc ?_ _ | refine Ext.drew ?_ | refine Ext.drewN ?_ _ | refine Ext.setCell ?_ (by first | (simp; done) | omega | (simp; omega)) _ | refine Ext.trans (by assumption) ?_)))).mono ?_
      rintro e w1 ⟨rfl, hx1⟩
      have k1 : Ext w w1 := Ext.trans ((by repeat (first | assumption | exact Ext.refl _ | refine Ext.alloc ?_ _ | refine Ext.drew ?_ | refine Ext.drewN ?_ _ | refine Ext.setCell ?_ (by first | (simp; done) | omega | (simp; omega)) _ | refine Ext.trans (by assumption) ?_))) hx1
      have t0 := hx1.cell (p := ⟨w.heap.size, 0, none⟩) (v := .slice A n c) (by first | (simp; done) | (simp (maxDischargeDepth := 7) [go_sem]; done))
      go_wp2_with fail
      refine (HK.out _ k1).mono ?_
      rintro e w2 ⟨⟨v, rfl, ⟨KA, m, d, rfl, hK⟩⟩, hx2⟩
      have hkm := hK.len
      have k2 : Ext w w2 := k1.trans hx2
      replace t0 := hx2.cell t0
      clear hK
      have g1 : ((m : Int) == 0) = false := by have := HKL.out; simp; omega
      clear hkm
      go_wp2
      go_ret
      exact ⟨rfl, k2⟩
theorem rleaf_is (A : Option Addr) (n c : Nat) (NS : List Node) (j : Nat) (hj : j < 18446744073709551616) (f i : Int) (hf : (Lit.int .i64 f).wf = true) (hi : (Lit.int .i64 i).wf = true) (b : Bool) (hb : View.leafV NS j f i = b) (w : World) (h : NL w A n c NS) :
    Calls Try.prog 13 #[.agg #[.slice A n c], .int .u64 j, .int .i64 f, .int .i64 i] w fun e w' => e = .returned (.bool b) ∧ Ext w w' := by
  subst hb; exact rleaf_any A n c NS j hj f i hf hi w h
set_option maxHeartbeats 1000000 in
theorem rfrom_any (A : Option Addr) (n c : Nat) (NS : List Node) (r : List Int) (hr : RootOk r) (f : Int) (hf : (Lit.int .i64 f).wf = true) (w : World) (h : NL w A n c NS) :
    Calls Try.prog 16 #[.agg #[.slice A n c], .agg (rootC r).toArray, .int .i64 f] w fun e w' => e = .returned (.int .i64 (View.fromV NS r f)) ∧ Ext w w' := by
  have hlen := h.len
  have hroom := h.row.room
  have hi32 : (Try.prog.info? 27).map (·.size) = some (rootC r).length := by rw [rootC_len hr]; kernel_rfl
  have HM := Lib.hid (fun b (hb : Tree.mayV NS = b) W (k : Ext w W) => rmay_is A n c NS b hb W (h.ext k))
  have rR := range_at (w := w.alloc (.cells #[.slice A n c] 24)) (B := w.heap.size + 1) (rootC r) 27 (by simp)
  cases hm : Tree.mayV NS with
  | false =>
    have e : View.fromV NS r f = -1 := by
      unfold View.fromV
      have hx : ∀ x, Tree.aboveV NS f x = false := fun x => by unfold Tree.aboveV Tree.isV; rw [hm]; rfl
      rw [hx, hx, if_neg (by simp), if_neg (by simp)]
    rw [e]
    go_enter Try.func16, Try.ntmps16
    go_wp2_with fail
    refine (HM.out false hm _ ((by repeat (first | assumption | exact Ext.refl _ | refine Ext.alloc ?_ _ | refine Ext.drew ?_ | refine Ext.drewN ?_ _ | refine Ext.setCell ?_ (by first | (simp; done) | omega | (simp; omega)) _ | refine Ext.trans (by assumption) ?_)))).mono ?_
    rintro e w1 ⟨rfl, hx1⟩
    have k1 : Ext w w1 := Ext.trans ((by repeat (first | assumption | exact Ext.refl _ | refine Ext.alloc ?_ _ | refine Ext.drew ?_ | refine Ext.drewN ?_ _ | refine Ext.setCell ?_ (by first | (simp; done) | omega | (simp; omega)) _ | refine Ext.trans (by assumption) ?_))) hx1
    have t0 := hx1.cell (p := ⟨w.heap.size, 0, none⟩) (v := .slice A n c) (by first | (simp; done) | (simp (maxDischargeDepth := 7) [go_sem]; done))
    replace rR := rangeAt_ext rR hx1
    go_wp2
    go_ret
    exact ⟨rfl, k1⟩
  | true =>
    by_cases hok : 0 ≤ f ∧ f < n
    · have hlo := findV_lo NS r
      obtain ⟨x, hx⟩ : ∃ x, Tree.findV NS r = x := ⟨_, rfl⟩
      have hff : Tree.aboveV NS f f = true := by
        obtain ⟨f, rfl⟩ := Int.eq_ofNat_of_zero_le hok.1
        exact (Tree.above_iff hm (by omega) (by omega)).2 (Tree.mem_self NS f)
      have hv : View.fromV NS r f = if Tree.aboveV NS f x = true then x else f := by unfold View.fromV; rw [hx, hff, if_pos rfl]
      rw [hv]
      rw [hx] at hlo
      have HF := Lib.hid (fun W (kx : Ext w W) => rfind_any A n c NS r hr W (h.ext kx))
      rw [hx] at HF
      obtain ⟨b, hb⟩ : ∃ b, Tree.aboveV NS f x = b := ⟨_, rfl⟩
      rw [hb]
      obtain ⟨y, hy⟩ : ∃ y, (if b = true then x else f) = y := ⟨_, rfl⟩
      rw [hy]
      have HY := Lib.hid hy
      have HA := Lib.hid (fun W (kx : Ext w W) => rabove_any A n c NS f x W (h.ext kx))
      rw [hb] at HA
      have q1 : decide (f < 0) = false := decide_eq_false (by omega)
      have q2 : decide ((n : Int) ≤ f) = false := decide_eq_false (by omega)
      clear hx hff hv hb hok hy
      go_enter Try.func16, Try.ntmps16
      go_wp2_with fail
      refine (HM.out true hm _ ((by repeat (first | assumption | exact Ext.refl _ | refine Ext.alloc ?_ _ | refine Ext.drew ?_ | refine Ext.drewN ?_ _ | refine Ext.setCell ?_ (by first | (simp; done) | omega | (simp; omega)) _ | refine Ext.trans (by assumption) ?_)))).mono ?_
      rintro e w1 ⟨rfl, hx1⟩
      have k1 : Ext w w1 := Ext.trans ((by repeat (first | assumption | exact Ext.refl _ | refine Ext.alloc ?_ _ | refine Ext.drew ?_ | refine Ext.drewN ?_ _ | refine Ext.setCell ?_ (by first | (simp; done) | omega | (simp; omega)) _ | refine Ext.trans (by assumption) ?_))) hx1
      have t0 := hx1.cell (p := ⟨w.heap.size, 0, none⟩) (v := .slice A n c) (by first | (simp; done) | (simp (maxDischargeDepth := 7) [go_sem]; done))
      replace rR := rangeAt_ext rR hx1
      clear hm HM
      go_wp2_with (refine wpList_load_mid rfl 27 _ rfl _ _ rfl (rootC r) _ rR Try.underlying27 rfl hi32 ?_)
      refine (HF.out _ k1).mono ?_
      rintro e w2 ⟨rfl, hx2⟩
      have k2 : Ext w w2 := k1.trans hx2
      replace t0 := hx2.cell t0
      go_wp2_with fail
      refine (HA.out _ k2).mono ?_
      rintro e w3 ⟨rfl, hx3⟩
      have k3 : Ext w w3 := k2.trans hx3
      cases b with
      | true =>
        go_wp2
        go_ret
        exact ⟨by rw [← HY.out]; rfl, k3⟩
      | false =>
        go_wp2
        go_ret
        exact ⟨by rw [← HY.out]; rfl, k3⟩
    · have e : View.fromV NS r f = -1 := by unfold View.fromV; rw [Tree.above_out (by omega), if_neg (by simp), Tree.above_out (by omega), if_neg (by simp)]
      rw [e]
      by_cases h0 : f < 0
      · have q1 : decide (f < 0) = true := decide_eq_true h0
        go_enter Try.func16, Try.ntmps16
        go_wp2_with fail
        refine (HM.out true hm _ ((by repeat (first | assumption | exact Ext.refl _ | refine Ext.alloc ?_ _ | refine Ext.drew ?_ | refine Ext.drewN ?_ _ | refine Ext.setCell ?_ (by first | (simp; done) | omega | (simp; omega)) _ | refine Ext.trans (by assumption) ?_)))).mono ?_
        rintro e w1 ⟨rfl, hx1⟩
        have k1 : Ext w w1 := Ext.trans ((by repeat (first | assumption | exact Ext.refl _ | refine Ext.alloc ?_ _ | refine Ext.drew ?_ | refine Ext.drewN ?_ _ | refine Ext.setCell ?_ (by first | (simp; done) | omega | (simp; omega)) _ | refine Ext.trans (by assumption) ?_))) hx1
        have t0 := hx1.cell (p := ⟨w.heap.size, 0, none⟩) (v := .slice A n c) (by first | (simp; done) | (simp (maxDischargeDepth := 7) [go_sem]; done))
        replace rR := rangeAt_ext rR hx1
        go_wp2
        go_ret
        exact ⟨rfl, k1⟩
      · have q1 : decide (f < 0) = false := decide_eq_false h0
        have q2 : decide ((n : Int) ≤ f) = true := decide_eq_true (by omega)
        go_enter Try.func16, Try.ntmps16
        go_wp2_with fail
        refine (HM.out true hm _ ((by repeat (first | assumption | exact Ext.refl _ | refine Ext.alloc ?_ _ | refine Ext.drew ?_ | refine Ext.drewN ?_ _ | refine Ext.setCell ?_ (by first | (simp; done) | omega | (simp; omega)) _ | refine Ext.trans (by assumption) ?_)))).mono ?_
        rintro e w1 ⟨rfl, hx1⟩
        have k1 : Ext w w1 := Ext.trans ((by repeat (first | assumption | exact Ext.refl _ | refine Ext.alloc ?_ _ | refine Ext.drew ?_ | refine Ext.drewN ?_ _ | refine Ext.setCell ?_ (by first | (simp; done) | omega | (simp; omega)) _ | refine Ext.trans (by assumption) ?_))) hx1
        have t0 := hx1.cell (p := ⟨w.heap.size, 0, none⟩) (v := .slice A n c) (by first | (simp; done) | (simp (maxDischargeDepth := 7) [go_sem]; done))
        replace rR := rangeAt_ext rR hx1
        go_wp2
        go_ret
        exact ⟨rfl, k1⟩
namespace View
open Tree
theorem lead_all {T : List Node} (hm : mayV T = true) {j : Nat} {f : Int} {i : Nat} (hi : i < T.length) : leadB T j f i = (List.range T.length).any (fun y => aboveV T (i : Int) (y : Int) && leafV T j f (y : Int)) := by
  apply Bool.eq_iff_iff.2
  rw [lead_iff, List.any_eq_true]
  constructor
  · rintro ⟨y, hy, hl, hx⟩
    exact ⟨y, List.mem_range.2 hy, by rw [hl, (above_iff hm hi hy).2 hx]; rfl⟩
  · rintro ⟨y, hy, h⟩
    have hy := List.mem_range.1 hy
    simp only [Bool.and_eq_true] at h
    exact ⟨y, hy, h.2, (above_iff hm hi hy).1 h.1⟩
theorem range_any (k : Nat) (p : Nat → Bool) : (List.range (k + 1)).any p = ((List.range k).any p || p k) := by
  rw [List.range_succ, List.any_append]; simp
theorem bl_succ (k : Nat) (o : Nat → Bool) : bl (k + 1) o = bl k o ++ [o k] := by unfold bl; rw [List.range_succ, List.map_append]; rfl
end View
theorem rowBools : RowT Try.prog 30 4 1 1 := RowT.mk' (z := .bool false) rfl (by kernel_rfl) rfl (by omega) (by omega)
set_option maxHeartbeats 2000000 in
theorem rleads_any (A : Option Addr) (n c : Nat) (NS : List Node) (j : Nat) (hj : j < 18446744073709551616) (f : Int) (hf : (Lit.int .i64 f).wf = true) (w : World) (h : NL w A n c NS) :
    Calls Try.prog 12 #[.agg #[.slice A n c], .int .u64 j, .int .i64 f] w fun e w' => (∃ v, e = .returned v ∧ IsBools w' v (View.leadsV NS j f)) ∧ Ext w w' := by
  have hlen := h.len
  have hroom := h.row.room
  have HM := Lib.hid (fun b (hb : Tree.mayV NS = b) W (k : Ext w W) => rmay_is A n c NS b hb W (h.ext k))
  cases hm : Tree.mayV NS with
  | false =>
    have e : View.leadsV NS j f = [] := by unfold View.leadsV; rw [hm]; rfl
    rw [e]
    go_enter Try.func12, Try.ntmps12
    go_wp2_with fail
    refine (HM.out false hm _ ((by repeat (first | assumption | exact Ext.refl _ | refine Ext.alloc ?_ _ | refine Ext.drew ?_ | refine Ext.drewN ?_ _ | refine Ext.setCell ?_ (by first | (simp; done) | omega | (simp; omega)) _ | refine Ext.trans (by assumption) ?_)))).mono ?_
    rintro e w1 ⟨rfl, hx1⟩
    have k1 : Ext w w1 := Ext.trans ((by repeat (first | assumption | exact Ext.refl _ | refine Ext.alloc ?_ _ | refine Ext.drew ?_ | refine Ext.drewN ?_ _ | refine Ext.setCell ?_ (by first | (simp; done) | omega | (simp; omega)) _ | refine Ext.trans (by assumption) ?_))) hx1
    have t0 := hx1.cell (p := ⟨w.heap.size, 0, none⟩) (v := .slice A n c) (by first | (simp; done) | (simp (maxDischargeDepth := 7) [go_sem]; done))
    go_wp2
    go_loopw [7, 9, 10, 11, 12, 13] (fun v i' _ _ _ _ wr => v = .slice none 0 0 ∧ i' = .int .i64 0 ∧ wr = w1) (fun _ _ _ _ _ _ _ => 0)
    case atStart => exact ⟨rfl, rfl, rfl⟩
    case round =>
      obtain ⟨rfl, rfl, rfl⟩ := hrel
      go_wp2
      all_goals (go_ret; exact ⟨⟨_, rfl, ⟨none, 0, 0, rfl, rfl, Nat.le_refl _, by omega, fun _ => rfl, fun h => absurd h (Nat.lt_irrefl _)⟩⟩, k1⟩)
  | true =>
    rw [View.leadsV_eq hm, hlen]
    have h12 := Tree.len_le hm
    rw [hlen] at h12
    have HA := Lib.hid (fun (i k : Nat) W (kx : Ext w W) => rabove_any A n c NS (i : Int) (k : Int) W (h.ext kx))
    have HL := Lib.hid (fun (k : Nat) (hk : k < n) W (kx : Ext w W) => rleaf_any A n c NS j hj f (k : Int) hf (wf_i64 (by omega) (by omega)) W (h.ext kx))
    have HLA := Lib.hid (fun i (hi : i < n) => (by have := View.lead_all hm (j := j) (f := f) (i := i) (by omega); rw [hlen] at this; exact this : View.leadB NS j f i = (List.range n).any (fun y => Tree.aboveV NS (i : Int) (y : Int) && View.leafV NS j f (y : Int))))
    replace HM := Lib.hid (fun W (kx : Ext w W) => HM.out true hm W kx)
    generalize View.leadB NS j f = ld at *
    clear hm h
    go_enter Try.func12, Try.ntmps12
    go_wp2_with fail
    refine (HM.out _ ((by repeat (first | assumption | exact Ext.refl _ | refine Ext.alloc ?_ _ | refine Ext.drew ?_ | refine Ext.drewN ?_ _ | refine Ext.setCell ?_ (by first | (simp; done) | omega | (simp; omega)) _ | refine Ext.trans (by assumption) ?_)))).mono ?_
    rintro e w1 ⟨rfl, hx1⟩
    have k1 : Ext w w1 := Ext.trans ((by repeat (first | assumption | exact Ext.refl _ | refine Ext.alloc ?_ _ | refine Ext.drew ?_ | refine Ext.drewN ?_ _ | refine Ext.setCell ?_ (by first | (simp; done) | omega | (simp; omega)) _ | refine Ext.trans (by assumption) ?_))) hx1
    have t0 := hx1.cell (p := ⟨w.heap.size, 0, none⟩) (v := .slice A n c) (by first | (simp; done) | (simp (maxDischargeDepth := 7) [go_sem]; done))
    have T0 := Lib.hid t0
    clear t0 HM
    go_wp2
    go_loopw [7, 9, 10, 11, 12, 13] (fun v i' _ _ _ _ wr => ∃ k : Nat, k ≤ n ∧ i' = .int .i64 k ∧ wr.ownsRow w1.heap.size 4 1 v k ((View.bl k ld).map Value.bool) ∧ Ext w1 wr) (fun _ i' _ _ _ _ _ => n - (intOf i').toNat)
    case atStart => exact ⟨0, Nat.zero_le _, rfl, own_new _ _ _ _, Ext.refl _⟩
    case round =>
      obtain ⟨i, hi, rfl, hown, hx⟩ := hrel
      have kk := k1.trans hx
      have t0 := hx.cell T0.out
      by_cases hlt : i < n
      · have gi : (i : Int) < n := by omega
        have HOW := Lib.hid hown
        have TW := Lib.hid t0
        clear hown
        go_wp2
        clear t0
        obtain ⟨w2, rfl⟩ : ∃ w2 : World, w2 = wr := ⟨_, rfl⟩
        go_loopw [10, 11, 12, 13] (fun b' k' _ _ wq => ∃ k : Nat, k ≤ n ∧ k' = .int .i64 k ∧ b' = .bool ((List.range k).any (fun y => Tree.aboveV NS (i : Int) (y : Int) && View.leafV NS j f (y : Int))) ∧ Ext w2 wq) (fun _ k' _ _ _ => n - (intOf k').toNat)
        case atStart => exact ⟨0, Nat.zero_le _, rfl, rfl, Ext.refl _⟩
        case round =>
          obtain ⟨k, hk, rfl, hbq, hxq⟩ := hrel
          have kq := kk.trans hxq
          have tq := hxq.cell TW.out
          by_cases hkn : k < n
          · have gk : (k : Int) < n := by omega
            subst hbq
            have hst : (List.range (k + 1)).any (fun y => Tree.aboveV NS (i : Int) (y : Int) && View.leafV NS j f (y : Int)) = ((List.range k).any (fun y => Tree.aboveV NS (i : Int) (y : Int) && View.leafV NS j f (y : Int)) || (Tree.aboveV NS (i : Int) (k : Int) && View.leafV NS j f (k : Int))) := View.range_any k _
            generalize (List.range k).any (fun y => Tree.aboveV NS (i : Int) (y : Int) && View.leafV NS j f (y : Int)) = x0 at hst ⊢
            have HAk := Lib.hid (HA.out i k)
            have HLk := Lib.hid (HL.out k hkn)
            generalize Tree.aboveV NS (i : Int) (k : Int) = xa at hst HAk
            generalize View.leafV NS j f (k : Int) = xl at hst HLk
            have HST := Lib.hid hst
            clear hst
            go_wp2_with fail
            refine (HAk.out _ kq).mono ?_
            rintro e w3 ⟨rfl, hx3⟩
            have k3 := hxq.trans hx3
            replace tq := hx3.cell tq
            go_wp2_with fail
            refine (HLk.out _ (kk.trans k3)).mono ?_
            rintro e w4 ⟨rfl, hx4⟩
            have k4 := k3.trans hx4
            replace tq := hx4.cell tq
            cases x0 <;> cases xa
            all_goals
              go_wp2
              go_roundw
              case rel =>
                have HV : Value.bool _ = Value.bool _ := congrArg Value.bool HST.out.symm
                first | exact ⟨k + 1, by omega, by go_num, HV, k4⟩ | (refine ⟨_, _, ⟨k + 1, by omega, ?_, HV, k4⟩, rfl, rfl⟩; go_num)
              case measure => simp [intOf]; omega
          · obtain rfl : n = k := by omega
            have hv := HLA.out i hlt
            rw [← hv] at hbq
            have HST := Lib.hid (View.bl_succ i ld)
            obtain ⟨x, hld⟩ : ∃ x, ld i = x := ⟨_, rfl⟩
            rw [hld] at hbq HST
            subst hbq
            clear hv hld
            have gk : ¬ (n : Int) < n := by omega
            have hsz := hxq.size
            have hsz2 := hx.size
            have hb : (Value.bool x).oneCell' = true := by cases x <;> rfl
            go_wp2_with (at_builtin; refine wpList_app rowBools rfl _ _ rfl w1.heap.size _ _ _ rfl ((own_ext HOW.out hxq).alloc _) (some ⟨_, 0, none⟩) 1 1 [.bool x] rfl (src_at hb (by simp)) (by omega) (by first | (simp; done) | (simp; omega)) ?_; intro v' w5 hown5 hgrow5 _)
            have hx5 : Ext w1 w5 := ((hx.trans hxq).alloc _).grown hgrow5 (fun j e => own_from HOW.out j e)
            go_roundw
            case rel =>
              have ho : w5.ownsRow w1.heap.size 4 1 v' (i + 1) ((View.bl (i + 1) ld).map Value.bool) := by
                rw [HST.out, List.map_append]; exact hown5
              first | exact ⟨i + 1, by omega, by go_num, ho, hx5⟩ | (refine ⟨_, _, _, _, ⟨i + 1, by omega, ?_, ho, hx5⟩, rfl, rfl, rfl, rfl⟩; go_num)
            case measure => simp [intOf]; omega
      · obtain rfl : n = i := by omega
        have HOW := Lib.hid hown
        clear hown
        go_wp2
        go_ret
        exact ⟨⟨_, rfl, isBools_own HOW.out (by omega)⟩, kk⟩
end Go.Proofs.Ytophpemlaecglaa
