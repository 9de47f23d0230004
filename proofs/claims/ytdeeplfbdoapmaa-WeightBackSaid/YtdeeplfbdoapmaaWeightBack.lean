/- WeightBack: what came and goes again leaves the weights as they were; nothing that comes, or goes, changes nothing; for every tree and all numbers. -/
import Derived.Test.YtdeeplfbdoapmaaWeightMake
namespace Go.Proofs.Ytdeeplfbdoapmaa
open Go.RowKit Go.WideShapes Go.ChangeShapes
set_option linter.unusedVariables false
set_option linter.unusedSimpArgs false






set_option maxHeartbeats 2000000 in
theorem WeightBack_walk {w : World} (tA : Option Addr) (tn tc : Nat) (t : List Node) (ht : NL w tA tn tc t) (wA : Option Addr) (wn wc : Nat) (lw : List Int) (hw : Ints w .u64 wA wn wc lw) (pA : Option Addr) (pn pc : Nat) (lp : List Int) (hp : Ints w .u64 pA pn pc lp) :
    Calls Try.prog 5 #[.agg #[.slice tA tn tc], .slice wA wn wc, .slice pA pn pc] w fun e' w' => e' = .returned (.bool true) ∧ Ext w w' := by
  have hlen := ht.len
  have hroom := ht.row.room
  have hwl := hw.len
  have hwroom := hw.room
  have HAW := Lib.hid (fun W => awake_any W)
  have HM := Lib.hid (fun b (hb : Tree.mayV t = b) W (k : Ext w W) => treeMay_is tA tn tc t b hb W (ht.ext k))
  have hmk := fun W => make_zeros tn (by omega) W
  obtain ⟨b1, hb1⟩ : ∃ b, (Weight.passV t lw lp (Weight.zeros tn)).isSome = b := ⟨_, rfl⟩
  obtain ⟨r1, hr1⟩ : ∃ b, (Weight.passV t lw lp (Weight.zeros tn)).getD [] = b := ⟨_, rfl⟩
  have HP := Lib.hid (fun WA wn wc lw PA pn pc lp MA mn mc lm b r hb hr W (k : Ext w W) hw hp hmi => pass_is tA tn tc t WA wn wc lw PA pn pc lp MA mn mc lm b r hb hr W (ht.ext k) hw hp hmi)
  by_cases h20 : 20 < tn
  · go_enter Try.func5, Try.ntmps5
    try simp only [List.append_eq, List.cons_append, List.nil_append]
    go_wp2_with fail
    refine (HAW.out _).mono ?_
    rintro e0 w0 ⟨rfl, hx0⟩
    have k0 : Ext w w0 := Ext.trans ((by repeat (first | assumption | exact Ext.refl _ | refine Ext.alloc ?_ _ | refine Ext.drew ?_ | refine Ext.drewN ?_ _ | refine Ext.setCell ?_ (by first | (simp; done) | omega | (simp; omega)) _ | refine Ext.trans (by assumption) ?_))) hx0
    have t0 := hx0.cell (p := ⟨w.heap.size, 0, none⟩) (v := .slice tA tn tc) (by first | (simp; done) | (simp (maxDischargeDepth := 7) [go_sem]; done))
    clear HAW
    have tl := lt_of_cell t0
    go_wp2_with fail
    refine (HP.out _ _ _ _ _ _ _ _ _ _ _ _ b1 r1 hb1 hr1 _ (Ext.trans k0 ((by repeat (first | assumption | exact Ext.refl _ | refine Ext.alloc ?_ _ | refine Ext.drew ?_ | refine Ext.drewN ?_ _ | refine Ext.setCell ?_ (by first | (simp; done) | omega | (simp; omega)) _ | refine Ext.trans (by assumption) ?_)))) (hw.ext (Ext.trans k0 ((by repeat (first | assumption | exact Ext.refl _ | refine Ext.alloc ?_ _ | refine Ext.drew ?_ | refine Ext.drewN ?_ _ | refine Ext.setCell ?_ (by first | (simp; done) | omega | (simp; omega)) _ | refine Ext.trans (by assumption) ?_))))) (hp.ext (Ext.trans k0 ((by repeat (first | assumption | exact Ext.refl _ | refine Ext.alloc ?_ _ | refine Ext.drew ?_ | refine Ext.drewN ?_ _ | refine Ext.setCell ?_ (by first | (simp; done) | omega | (simp; omega)) _ | refine Ext.trans (by assumption) ?_))))) (zeros_at (w := w0) tn (by omega) rfl)).mono ?_
    rintro e w1 ⟨⟨v, rfl, ⟨A1, n1, c1, rfl, h1⟩⟩, hx1⟩
    have z1 := (zeros_at (w := w0) tn (by omega) rfl).ext hx1
    have k1 : Ext w w1 := Ext.trans k0 (Ext.trans ((by repeat (first | assumption | exact Ext.refl _ | refine Ext.alloc ?_ _ | refine Ext.drew ?_ | refine Ext.drewN ?_ _ | refine Ext.setCell ?_ (by first | (simp; done) | omega | (simp; omega)) _ | refine Ext.trans (by assumption) ?_))) hx1)
    replace t0 := (Ext.trans (Ext.alloc (Ext.refl _) _) hx1).cell t0
    go_wp2
    go_ret
    exact ⟨rfl, k1⟩
  · have h20' : ¬ (20 : Int) < tn := by omega
    obtain ⟨r2, hr2⟩ : ∃ b, (Weight.passV t lw (Weight.zeros tn) (Weight.zeros tn)).getD [] = b := ⟨_, rfl⟩
    obtain ⟨q2, hq2⟩ : ∃ b, decide (r2 = lw) = b := ⟨_, rfl⟩
    cases hm : Tree.mayV t with
    | false =>
      have hb2 : (Weight.passV t lw (Weight.zeros tn) (Weight.zeros tn)).isSome = false := by rw [Weight.passV_no hm]; rfl
      have : b1 = false := by rw [← hb1, Weight.passV_no hm]; rfl
      subst this
      go_enter Try.func5, Try.ntmps5
      try simp only [List.append_eq, List.cons_append, List.nil_append]
      go_wp2_with fail
      refine (HAW.out _).mono ?_
      rintro e0 w0 ⟨rfl, hx0⟩
      have k0 : Ext w w0 := Ext.trans ((by repeat (first | assumption | exact Ext.refl _ | refine Ext.alloc ?_ _ | refine Ext.drew ?_ | refine Ext.drewN ?_ _ | refine Ext.setCell ?_ (by first | (simp; done) | omega | (simp; omega)) _ | refine Ext.trans (by assumption) ?_))) hx0
      have t0 := hx0.cell (p := ⟨w.heap.size, 0, none⟩) (v := .slice tA tn tc) (by first | (simp; done) | (simp (maxDischargeDepth := 7) [go_sem]; done))
      clear HAW
      have tl := lt_of_cell t0
      go_wp2_with fail
      refine (HP.out _ _ _ _ _ _ _ _ _ _ _ _ false r1 hb1 hr1 _ (Ext.trans k0 ((by repeat (first | assumption | exact Ext.refl _ | refine Ext.alloc ?_ _ | refine Ext.drew ?_ | refine Ext.drewN ?_ _ | refine Ext.setCell ?_ (by first | (simp; done) | omega | (simp; omega)) _ | refine Ext.trans (by assumption) ?_)))) (hw.ext (Ext.trans k0 ((by repeat (first | assumption | exact Ext.refl _ | refine Ext.alloc ?_ _ | refine Ext.drew ?_ | refine Ext.drewN ?_ _ | refine Ext.setCell ?_ (by first | (simp; done) | omega | (simp; omega)) _ | refine Ext.trans (by assumption) ?_))))) (hp.ext (Ext.trans k0 ((by repeat (first | assumption | exact Ext.refl _ | refine Ext.alloc ?_ _ | refine Ext.drew ?_ | refine Ext.drewN ?_ _ | refine Ext.setCell ?_ (by first | (simp; done) | omega | (simp; omega)) _ | refine Ext.trans (by assumption) ?_))))) (zeros_at (w := w0) tn (by omega) rfl)).mono ?_
      rintro e w1 ⟨⟨v, rfl, ⟨A1, n1, c1, rfl, h1⟩⟩, hx1⟩
      have z1 := (zeros_at (w := w0) tn (by omega) rfl).ext hx1
      have k1 : Ext w w1 := Ext.trans k0 (Ext.trans ((by repeat (first | assumption | exact Ext.refl _ | refine Ext.alloc ?_ _ | refine Ext.drew ?_ | refine Ext.drewN ?_ _ | refine Ext.setCell ?_ (by first | (simp; done) | omega | (simp; omega)) _ | refine Ext.trans (by assumption) ?_))) hx1)
      replace t0 := (Ext.trans (Ext.alloc (Ext.refl _) _) hx1).cell t0
      go_wp2_with fail
      refine (HP.out _ _ _ _ _ _ _ _ _ _ _ _ false r2 hb2 hr2 _ k1 (hw.ext k1) z1 z1).mono ?_
      rintro e w2 ⟨⟨v, rfl, ⟨A2, n2, c2, rfl, h2⟩⟩, hx2⟩
      have k2 : Ext w w2 := Ext.trans k1 hx2
      replace t0 := hx2.cell t0
      go_wp2_with fail
      refine (rsame_is _ _ _ _ _ _ _ _ q2 hq2 _ h2 (hw.ext k2)).mono ?_
      rintro e w3 ⟨rfl, hx3⟩
      have k3 : Ext w w3 := Ext.trans k2 hx3
      replace t0 := hx3.cell t0
      go_wp2_with fail
      refine (HM.out _ hm _ k3).mono ?_
      rintro e w4 ⟨rfl, hx4⟩
      have k4 : Ext w w4 := Ext.trans k3 hx4
      replace t0 := hx4.cell t0
      go_wp2
      go_ret
      exact ⟨rfl, k4⟩
    | true =>
      by_cases hwt : wn = tn
      · have e2 : Weight.passV t lw (Weight.zeros tn) (Weight.zeros tn) = some lw := by
          have := Weight.pass_zero hm (w := lw) (by omega) hw.wf
          rw [hlen] at this; exact this
        have hb2 : (Weight.passV t lw (Weight.zeros tn) (Weight.zeros tn)).isSome = true := by rw [e2]; rfl
        have hrr : r2 = lw := by rw [← hr2, e2]; rfl
        have : q2 = true := by rw [← hq2]; exact decide_eq_true hrr
        subst this
        have hwt' : ((wn : Int) == tn) = true := by simp; omega
        clear hwt hwl
        cases b1 with
        | false =>
          go_enter Try.func5, Try.ntmps5
          try simp only [List.append_eq, List.cons_append, List.nil_append]
          go_wp2_with fail
          refine (HAW.out _).mono ?_
          rintro e0 w0 ⟨rfl, hx0⟩
          have k0 : Ext w w0 := Ext.trans ((by repeat (first | assumption | exact Ext.refl _ | refine Ext.alloc ?_ _ | refine Ext.drew ?_ | refine Ext.drewN ?_ _ | refine Ext.setCell ?_ (by first | (simp; done) | omega | (simp; omega)) _ | refine Ext.trans (by assumption) ?_))) hx0
          have t0 := hx0.cell (p := ⟨w.heap.size, 0, none⟩) (v := .slice tA tn tc) (by first | (simp; done) | (simp (maxDischargeDepth := 7) [go_sem]; done))
          clear HAW
          have tl := lt_of_cell t0
          go_wp2_with fail
          refine (HP.out _ _ _ _ _ _ _ _ _ _ _ _ false r1 hb1 hr1 _ (Ext.trans k0 ((by repeat (first | assumption | exact Ext.refl _ | refine Ext.alloc ?_ _ | refine Ext.drew ?_ | refine Ext.drewN ?_ _ | refine Ext.setCell ?_ (by first | (simp; done) | omega | (simp; omega)) _ | refine Ext.trans (by assumption) ?_)))) (hw.ext (Ext.trans k0 ((by repeat (first | assumption | exact Ext.refl _ | refine Ext.alloc ?_ _ | refine Ext.drew ?_ | refine Ext.drewN ?_ _ | refine Ext.setCell ?_ (by first | (simp; done) | omega | (simp; omega)) _ | refine Ext.trans (by assumption) ?_))))) (hp.ext (Ext.trans k0 ((by repeat (first | assumption | exact Ext.refl _ | refine Ext.alloc ?_ _ | refine Ext.drew ?_ | refine Ext.drewN ?_ _ | refine Ext.setCell ?_ (by first | (simp; done) | omega | (simp; omega)) _ | refine Ext.trans (by assumption) ?_))))) (zeros_at (w := w0) tn (by omega) rfl)).mono ?_
          rintro e w1 ⟨⟨v, rfl, ⟨A1, n1, c1, rfl, h1⟩⟩, hx1⟩
          have z1 := (zeros_at (w := w0) tn (by omega) rfl).ext hx1
          have k1 : Ext w w1 := Ext.trans k0 (Ext.trans ((by repeat (first | assumption | exact Ext.refl _ | refine Ext.alloc ?_ _ | refine Ext.drew ?_ | refine Ext.drewN ?_ _ | refine Ext.setCell ?_ (by first | (simp; done) | omega | (simp; omega)) _ | refine Ext.trans (by assumption) ?_))) hx1)
          replace t0 := (Ext.trans (Ext.alloc (Ext.refl _) _) hx1).cell t0
          go_wp2_with fail
          refine (HP.out _ _ _ _ _ _ _ _ _ _ _ _ true r2 hb2 hr2 _ k1 (hw.ext k1) z1 z1).mono ?_
          rintro e w2 ⟨⟨v, rfl, ⟨A2, n2, c2, rfl, h2⟩⟩, hx2⟩
          have k2 : Ext w w2 := Ext.trans k1 hx2
          replace t0 := hx2.cell t0
          go_wp2_with fail
          refine (rsame_is _ _ _ _ _ _ _ _ true hq2 _ h2 (hw.ext k2)).mono ?_
          rintro e w3 ⟨rfl, hx3⟩
          have k3 : Ext w w3 := Ext.trans k2 hx3
          replace t0 := hx3.cell t0
          go_wp2_with fail
          refine (HM.out _ hm _ k3).mono ?_
          rintro e w4 ⟨rfl, hx4⟩
          have k4 : Ext w w4 := Ext.trans k3 hx4
          replace t0 := hx4.cell t0
          go_wp2
          go_ret
          exact ⟨rfl, k4⟩
        | true =>
          have e3 : Weight.passV t r1 (Weight.zeros tn) lp = some lw := by
            obtain ⟨a, ha⟩ := Option.isSome_iff_exists.1 hb1
            rw [ha] at hr1
            obtain rfl : a = r1 := hr1
            rw [← hlen] at ha ⊢
            exact Weight.pass_back hm hw.wf ha
          have hb3 : (Weight.passV t r1 (Weight.zeros tn) lp).isSome = true := by rw [e3]; rfl
          have hr3 : (Weight.passV t r1 (Weight.zeros tn) lp).getD [] = lw := by rw [e3]; rfl
          go_enter Try.func5, Try.ntmps5
          try simp only [List.append_eq, List.cons_append, List.nil_append]
          go_wp2_with fail
          refine (HAW.out _).mono ?_
          rintro e0 w0 ⟨rfl, hx0⟩
          have k0 : Ext w w0 := Ext.trans ((by repeat (first | assumption | exact Ext.refl _ | refine Ext.alloc ?_ _ | refine Ext.drew ?_ | refine Ext.drewN ?_ _ | refine Ext.setCell ?_ (by first | (simp; done) | omega | (simp; omega)) _ | refine Ext.trans (by assumption) ?_))) hx0
          have t0 := hx0.cell (p := ⟨w.heap.size, 0, none⟩) (v := .slice tA tn tc) (by first | (simp; done) | (simp (maxDischargeDepth := 7) [go_sem]; done))
          clear HAW
          have tl := lt_of_cell t0
          go_wp2_with fail
          refine (HP.out _ _ _ _ _ _ _ _ _ _ _ _ true r1 hb1 hr1 _ (Ext.trans k0 ((by repeat (first | assumption | exact Ext.refl _ | refine Ext.alloc ?_ _ | refine Ext.drew ?_ | refine Ext.drewN ?_ _ | refine Ext.setCell ?_ (by first | (simp; done) | omega | (simp; omega)) _ | refine Ext.trans (by assumption) ?_)))) (hw.ext (Ext.trans k0 ((by repeat (first | assumption | exact Ext.refl _ | refine Ext.alloc ?_ _ | refine Ext.drew ?_ | refine Ext.drewN ?_ _ | refine Ext.setCell ?_ (by first | (simp; done) | omega | (simp; omega)) _ | refine Ext.trans (by assumption) ?_))))) (hp.ext (Ext.trans k0 ((by repeat (first | assumption | exact Ext.refl _ | refine Ext.alloc ?_ _ | refine Ext.drew ?_ | refine Ext.drewN ?_ _ | refine Ext.setCell ?_ (by first | (simp; done) | omega | (simp; omega)) _ | refine Ext.trans (by assumption) ?_))))) (zeros_at (w := w0) tn (by omega) rfl)).mono ?_
          rintro e w1 ⟨⟨v, rfl, ⟨A1, n1, c1, rfl, h1⟩⟩, hx1⟩
          have z1 := (zeros_at (w := w0) tn (by omega) rfl).ext hx1
          have k1 : Ext w w1 := Ext.trans k0 (Ext.trans ((by repeat (first | assumption | exact Ext.refl _ | refine Ext.alloc ?_ _ | refine Ext.drew ?_ | refine Ext.drewN ?_ _ | refine Ext.setCell ?_ (by first | (simp; done) | omega | (simp; omega)) _ | refine Ext.trans (by assumption) ?_))) hx1)
          replace t0 := (Ext.trans (Ext.alloc (Ext.refl _) _) hx1).cell t0
          go_wp2_with fail
          refine (HP.out _ _ _ _ _ _ _ _ _ _ _ _ true r2 hb2 hr2 _ k1 (hw.ext k1) z1 z1).mono ?_
          rintro e w2 ⟨⟨v, rfl, ⟨A2, n2, c2, rfl, h2⟩⟩, hx2⟩
          have k2 : Ext w w2 := Ext.trans k1 hx2
          replace t0 := hx2.cell t0
          go_wp2_with fail
          refine (rsame_is _ _ _ _ _ _ _ _ true hq2 _ h2 (hw.ext k2)).mono ?_
          rintro e w3 ⟨rfl, hx3⟩
          have k3 : Ext w w3 := Ext.trans k2 hx3
          replace t0 := hx3.cell t0
          go_wp2_with fail
          refine (HM.out _ hm _ k3).mono ?_
          rintro e w4 ⟨rfl, hx4⟩
          have k4 : Ext w w4 := Ext.trans k3 hx4
          replace t0 := hx4.cell t0
          go_wp2_with fail
          refine (HP.out _ _ _ _ _ _ _ _ _ _ _ _ true lw hb3 hr3 _ k4 (h1.ext (hx2.trans (hx3.trans hx4))) (z1.ext (hx2.trans (hx3.trans hx4))) (hp.ext k4)).mono ?_
          rintro e w5 ⟨⟨v, rfl, ⟨A5, n5, c5, rfl, h5⟩⟩, hx5⟩
          have k5 : Ext w w5 := Ext.trans k4 hx5
          go_wp2_with fail
          refine (rsame_is _ _ _ _ _ _ lw lw true (decide_eq_true rfl) _ h5 (hw.ext k5)).mono ?_
          rintro e w6 ⟨rfl, hx6⟩
          have k6 : Ext w w6 := Ext.trans k5 hx6
          go_wp2
          go_ret
          exact ⟨rfl, k6⟩
      · have hwt' : ((wn : Int) == tn) = false := by simp; omega
        have hsh : lw.length ≠ t.length := by omega
        have hb2 : (Weight.passV t lw (Weight.zeros tn) (Weight.zeros tn)).isSome = false := by rw [Weight.passV_short hsh]; rfl
        have : b1 = false := by rw [← hb1, Weight.passV_short hsh]; rfl
        subst this
        go_enter Try.func5, Try.ntmps5
        try simp only [List.append_eq, List.cons_append, List.nil_append]
        go_wp2_with fail
        refine (HAW.out _).mono ?_
        rintro e0 w0 ⟨rfl, hx0⟩
        have k0 : Ext w w0 := Ext.trans ((by repeat (first | assumption | exact Ext.refl _ | refine Ext.alloc ?_ _ | refine Ext.drew ?_ | refine Ext.drewN ?_ _ | refine Ext.setCell ?_ (by first | (simp; done) | omega | (simp; omega)) _ | refine Ext.trans (by assumption) ?_))) hx0
        have t0 := hx0.cell (p := ⟨w.heap.size, 0, none⟩) (v := .slice tA tn tc) (by first | (simp; done) | (simp (maxDischargeDepth := 7) [go_sem]; done))
        clear HAW
        have tl := lt_of_cell t0
        go_wp2_with fail
        refine (HP.out _ _ _ _ _ _ _ _ _ _ _ _ false r1 hb1 hr1 _ (Ext.trans k0 ((by repeat (first | assumption | exact Ext.refl _ | refine Ext.alloc ?_ _ | refine Ext.drew ?_ | refine Ext.drewN ?_ _ | refine Ext.setCell ?_ (by first | (simp; done) | omega | (simp; omega)) _ | refine Ext.trans (by assumption) ?_)))) (hw.ext (Ext.trans k0 ((by repeat (first | assumption | exact Ext.refl _ | refine Ext.alloc ?_ _ | refine Ext.drew ?_ | refine Ext.drewN ?_ _ | refine Ext.setCell ?_ (by first | (simp; done) | omega | (simp; omega)) _ | refine Ext.trans (by assumption) ?_))))) (hp.ext (Ext.trans k0 ((by repeat (first | assumption | exact Ext.refl _ | refine Ext.alloc ?_ _ | refine Ext.drew ?_ | refine Ext.drewN ?_ _ | refine Ext.setCell ?_ (by first | (simp; done) | omega | (simp; omega)) _ | refine Ext.trans (by assumption) ?_))))) (zeros_at (w := w0) tn (by omega) rfl)).mono ?_
        rintro e w1 ⟨⟨v, rfl, ⟨A1, n1, c1, rfl, h1⟩⟩, hx1⟩
        have z1 := (zeros_at (w := w0) tn (by omega) rfl).ext hx1
        have k1 : Ext w w1 := Ext.trans k0 (Ext.trans ((by repeat (first | assumption | exact Ext.refl _ | refine Ext.alloc ?_ _ | refine Ext.drew ?_ | refine Ext.drewN ?_ _ | refine Ext.setCell ?_ (by first | (simp; done) | omega | (simp; omega)) _ | refine Ext.trans (by assumption) ?_))) hx1)
        replace t0 := (Ext.trans (Ext.alloc (Ext.refl _) _) hx1).cell t0
        go_wp2_with fail
        refine (HP.out _ _ _ _ _ _ _ _ _ _ _ _ false r2 hb2 hr2 _ k1 (hw.ext k1) z1 z1).mono ?_
        rintro e w2 ⟨⟨v, rfl, ⟨A2, n2, c2, rfl, h2⟩⟩, hx2⟩
        have k2 : Ext w w2 := Ext.trans k1 hx2
        replace t0 := hx2.cell t0
        go_wp2_with fail
        refine (rsame_is _ _ _ _ _ _ _ _ q2 hq2 _ h2 (hw.ext k2)).mono ?_
        rintro e w3 ⟨rfl, hx3⟩
        have k3 : Ext w w3 := Ext.trans k2 hx3
        replace t0 := hx3.cell t0
        go_wp2_with fail
        refine (HM.out _ hm _ k3).mono ?_
        rintro e w4 ⟨rfl, hx4⟩
        have k4 : Ext w w4 := Ext.trans k3 hx4
        replace t0 := hx4.cell t0
        go_wp2
        go_ret
        exact ⟨rfl, k4⟩
set_option maxRecDepth 100000 in
theorem WeightBack_lifted (os : Os) (started : os.Started) (H : Type) (enc : TypeId × Value → H) :
    ReturnsInHanded {} Try.checked os 5 .any (Rows.weightBackSpec.pre6 enc Try.prog Try.f5 Rows.weightBackRow.domain false) (Rows.weightBackSpec.post enc Try.prog Try.f5 false true false false) := by
  refine returnsInHanded_of_change_sized (C := Try.checked) own started (by kernel_rfl) Try.func5
    (ChangeSpec.witness6 (enc := enc) (C := Try.checked) false ⟨#[], #[.agg #[.slice none 0 0], .slice none 0 0, .slice none 0 0], []⟩ 8 (by kernel_rfl) (by kernel_rfl) (by kernel_rfl) (by kernel_rfl)) ?_
  intro W base args ds gs before hval0 hW _hcnd hsz0 _
  have hval : ∀ (j : Nat) t v, Try.f5.params[j]? = some t → args[j]? = some v → Value.okWide Try.prog W .any base t v := hval0
  have hsz : (DataW.weightsEach Try.prog (Try.f5.params.toList ++ Rows.weightBackSpec.plain.varTypes Try.prog) (ds ++ gs)).all (· ≤ reachBytes) = true := hsz0
  have hW' := hW
  obtain ⟨p, q, hA0, hV, rfl, hfz, hnd⟩ := hW
  have hA : DataW.TrodAll enc Try.prog W 0 (fun _ => true) true Try.f5.params.toList args.toList ds p := hA0
  rw [Try.params5] at hA hval hsz
  obtain ⟨v0, vs0, d0, ds0, p0, q0, hargs, rfl, rfl, h0, r0⟩ := trodAll_cons hA
  obtain ⟨v1, vs1, d1, ds1, p1, q1, rfl, rfl, rfl, h1, r1⟩ := trodAll_cons r0
  obtain ⟨v2, vs2, d2, ds2, p2, q2, rfl, rfl, rfl, h2, r2⟩ := trodAll_cons r1
  obtain ⟨rfl, rfl, rfl⟩ := trodAll_nil r2
  obtain rfl : args = #[v0, v1, v2] := by cases args; simp_all
  obtain ⟨rfl, rfl⟩ := trodVars_none hV
  have h0k := h0
  have h1k := h1
  have h2k := h2
  have hlt0 : ∀ x ∈ p0, x.block < W.heap.size := fun x hx => by have := hW'.lt x (by simp [hx]); simpa using this
  have hlt1 : ∀ x ∈ p1, x.block < W.heap.size := fun x hx => by have := hW'.lt x (by simp [hx]); simpa using this
  have hlt2 : ∀ x ∈ p2, x.block < W.heap.size := fun x hx => by have := hW'.lt x (by simp [hx]); simpa using this
  obtain ⟨tA, tn, tc, t, rfl, ht⟩ := open_tree (hval 0 24 v0 rfl rfl) h0 hsz (j := 0) rfl rfl
  obtain ⟨w, wA, wn, wc, rfl, hw⟩ := open_Ints Try.underlying25 Try.underlying33 (by kernel_rfl) (by kernel_rfl) (hval 1 25 v1 rfl rfl) h1 hsz (j := 1) rfl rfl
  obtain ⟨plus, plusA, plusn, plusc, rfl, hplus⟩ := open_Ints Try.underlying25 Try.underlying33 (by kernel_rfl) (by kernel_rfl) (hval 2 25 v2 rfl rfl) h2 hsz (j := 2) rfl rfl
  clear hA0 hval0
  simp only [List.append_nil] at hW'
  refine (WeightBack_walk tA tn tc t ht wA wn wc w hw plusA plusn plusc plus hplus (w := W)).mono fun e W' ⟨he, hg⟩ => ?_
  subst he
  exact ⟨_, rfl, post_law (pa := p0 ++ (p1 ++ (p2 ++ []))) (pv := []) hW' (fun _ _ _ => (trodAll_cons_mk (shut_bool Try.underlying4 _) trodAll_mk0))
    (trodAll_cons_mk (Below.trod laidOut (by kernel_rfl) (of_decide_eq_true (by kernel_rfl)) h0k hg.out hlt0) (trodAll_cons_mk (Below.trod laidOut (by kernel_rfl) (of_decide_eq_true (by kernel_rfl)) h1k hg.out hlt1) (trodAll_cons_mk (Below.trod laidOut (by kernel_rfl) (of_decide_eq_true (by kernel_rfl)) h2k hg.out hlt2) trodAll_mk0))) rfl (by simp) hg⟩
theorem WeightBack_holds : Rows.WeightBackSaid :=
  OpenClaim.holds_of_wide 5 Try.f5 rfl rfl rfl rfl rfl rfl rfl ⟨rfl, rfl, rfl, rfl, rfl⟩ rfl rfl rfl rfl rfl (by kernel_rfl) Try.func5 (by kernel_rfl)
    (of_decide_eq_true (by kernel_rfl)) (by unfold Func.isWrapper; first | (rw [if_pos (by decide +kernel)]; kernel_rfl) | (rw [if_neg (by decide +kernel)]; exact ⟨rfl, rfl⟩))
    (fun os started H enc _ => WeightBack_lifted os started H enc)
#print axioms WeightBack_holds
end Go.Proofs.Ytdeeplfbdoapmaa
