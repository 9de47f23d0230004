/- VoteLater: a vote of a greater epoch than all that there were is taken, of whoever did not vote twice; one of a less epoch than the latest one is ignored. No conditions. -/
import Derived.Test.YtnpopepannimiaaVoteLaw
import Derived.Test.YtnpopepannimiaaLatOpen
import Derived.Test.YtnpopepannimiaaQuietX
namespace Go.Proofs.Ytnpopepannimiaa
open Go.RowKit Go.WideShapes Go.ChangeShapes Go.Joins Go.Deep Go.Sort
set_option linter.unusedVariables false
set_option linter.unusedSimpArgs false








theorem refSame_is (q : Bool) {A : Option Addr} {n c o : Nat} {LS : List Lat} {B : Option Addr} {m d o2 : Nat} {MS : List Lat} {w : World} (h : VL w A n c LS) (g : VL w B m d MS) (e : sameV LS o MS o2 = q) :
    Calls Try.prog 14 #[.agg #[.slice A n c, .int .u64 o], .agg #[.slice B m d, .int .u64 o2]] w fun e w' => e = .returned (.bool q) ∧ Ext w w' := e ▸ refSame_any A n c o LS B m d o2 MS w h g
theorem put_taken {LS : List Lat} {o k : Nat} {r : List Int} {e : Nat} (hm : mayV LS o = true) (hk : k < LS.length) : ((putV LS o k r e).2.2.1 == 1) = ((!(LS.getD k Lat.none).has || decide ((LS.getD k Lat.none).epoch < e)) && !o.testBit k) := by
  rw [put_in hm hk]
  generalize LS.getD k Lat.none = x
  cases hb : o.testBit k with
  | true => simp [howV]
  | false =>
    by_cases h : (!x.has || decide (x.epoch < e)) = true
    · rw [h]; simp [howV, h]
    · have h' : (!x.has || decide (x.epoch < e)) = false := by simpa using h
      rw [h']
      have : howV x false r e ≠ 0 := by
        unfold howV
        rw [if_neg (by simp), if_neg (by simp [h'])]
        split <;> simp
      rw [if_neg this]
      split <;> simp
theorem put_less {LS : List Lat} {o k : Nat} {r : List Int} {e : Nat} (hm : mayV LS o = true) (hk : k < LS.length) (h : o.testBit k = true ∨ ((LS.getD k Lat.none).has = true ∧ e < (LS.getD k Lat.none).epoch)) : sameV (putV LS o k r e).1 (putV LS o k r e).2.1 LS o = true := by
  have : (putV LS o k r e).2.2.1 = 0 := by
    rw [put_in hm hk]
    have : howV (LS.getD k Lat.none) (o.testBit k) r e = 3 ∨ howV (LS.getD k Lat.none) (o.testBit k) r e = 1 := by
      generalize LS.getD k Lat.none = x at h ⊢
      rcases h with h | ⟨h1, h2⟩
      · left; simp [howV, h]
      · cases hb : o.testBit k with
        | true => left; simp [howV]
        | false =>
          right
          unfold howV
          rw [if_neg (by simp), if_neg (by simp [h1]; omega), if_pos (by simp [h2])]
    rcases this with h' | h' <;> rw [h'] <;> rfl
  obtain ⟨e1, e2⟩ := put_ignored hm hk this
  unfold sameV
  rw [e1, e2]; simp
set_option maxHeartbeats 8000000 in
theorem VoteLater_walk (A : Option Addr) (n c : Nat) (LS : List Lat) (o : Nat) (ho : o < 18446744073709551616) {w : World} (h : VL w A n c LS) (val : Int) (q1 : -9223372036854775808 ≤ val) (q2 : val ≤ 9223372036854775807) (r : List Int) (hr0 : RootOk r) (e : Nat) (he : e < 18446744073709551616) :
    Calls Try.prog 6 #[.agg #[.slice A n c, .int .u64 o], .int .i64 val, .agg (rootC r).toArray, .int .u64 e] w fun e' w' => e' = .returned (.bool true) ∧ Ext w w' := by
  have HA := Lib.hid (fun W => awake_any W)
  have HM := Lib.hid (fun W (k : Ext w W) => vmay_any A n c o ho LS W (h.ext k))
  have hi32 : (Try.prog.info? 32).map (·.size) = some (rootC r).length := by rw [rootC_len hr0]; kernel_rfl
  have hl := h.len
  cases hm : mayV LS o with
  | false =>
    rw [hm] at HM
    clear h
    go_enter Try.func6, Try.ntmps6
    go_wp2_with fail
    refine (HA.out _).mono ?_
    rintro e1 w1 ⟨rfl, hx1⟩
    have k1 : Ext w w1 := Ext.trans ((by repeat (first | assumption | exact Ext.refl _ | refine Ext.alloc ?_ _ | refine Ext.drew ?_ | refine Ext.drewN ?_ _ | refine Ext.setCell ?_ (by first | (simp; done) | omega | (simp; omega)) _ | refine Ext.trans (by assumption) ?_))) hx1
    obtain ⟨v0, v1, vf⟩ := hx1.box2 (B := w.heap.size) (a := .slice A n c) (b := .int .u64 o) (by first | (simp; done) | (simp (maxDischargeDepth := 7) [go_sem]; done)) (by first | (simp; done) | (simp (maxDischargeDepth := 7) [go_sem]; done)) (by first | (simp; done) | (simp (maxDischargeDepth := 7) [go_sem]; done))
    have vl := lt_of_cell v0
    have rR := rangeAt_ext (range_at (w := w.alloc (.cells #[.slice A n c, .int .u64 o] 28)) (B := w.heap.size + 1) (rootC r) 32 (by simp)) hx1
    go_wp2_with fail
    refine (HM.out _ k1).mono ?_
    rintro e2 w2 ⟨rfl, hx2⟩
    have k2 : Ext w1 w2 := hx2
    replace vf := k2.free v0 vf
    replace v0 := k2.cell v0
    replace v1 := k2.cell v1
    replace vl := lt_of_cell v0
    replace rR := rangeAt_ext rR k2
    go_wp2
    go_ret
    exact ⟨rfl, k1.trans k2⟩
  | true =>
    rw [hm] at HM
    by_cases hv : val < 0
    · clear h
      go_enter Try.func6, Try.ntmps6
      go_wp2_with fail
      refine (HA.out _).mono ?_
      rintro e1 w1 ⟨rfl, hx1⟩
      have k1 : Ext w w1 := Ext.trans ((by repeat (first | assumption | exact Ext.refl _ | refine Ext.alloc ?_ _ | refine Ext.drew ?_ | refine Ext.drewN ?_ _ | refine Ext.setCell ?_ (by first | (simp; done) | omega | (simp; omega)) _ | refine Ext.trans (by assumption) ?_))) hx1
      obtain ⟨v0, v1, vf⟩ := hx1.box2 (B := w.heap.size) (a := .slice A n c) (b := .int .u64 o) (by first | (simp; done) | (simp (maxDischargeDepth := 7) [go_sem]; done)) (by first | (simp; done) | (simp (maxDischargeDepth := 7) [go_sem]; done)) (by first | (simp; done) | (simp (maxDischargeDepth := 7) [go_sem]; done))
      have vl := lt_of_cell v0
      have rR := rangeAt_ext (range_at (w := w.alloc (.cells #[.slice A n c, .int .u64 o] 28)) (B := w.heap.size + 1) (rootC r) 32 (by simp)) hx1
      go_wp2_with fail
      refine (HM.out _ k1).mono ?_
      rintro e2 w2 ⟨rfl, hx2⟩
      have k2 : Ext w1 w2 := hx2
      replace vf := k2.free v0 vf
      replace v0 := k2.cell v0
      replace v1 := k2.cell v1
      replace vl := lt_of_cell v0
      replace rR := rangeAt_ext rR k2
      go_wp2
      go_ret
      exact ⟨rfl, k1.trans k2⟩
    by_cases hvn : (n : Int) ≤ val
    · clear h
      go_enter Try.func6, Try.ntmps6
      go_wp2_with fail
      refine (HA.out _).mono ?_
      rintro e1 w1 ⟨rfl, hx1⟩
      have k1 : Ext w w1 := Ext.trans ((by repeat (first | assumption | exact Ext.refl _ | refine Ext.alloc ?_ _ | refine Ext.drew ?_ | refine Ext.drewN ?_ _ | refine Ext.setCell ?_ (by first | (simp; done) | omega | (simp; omega)) _ | refine Ext.trans (by assumption) ?_))) hx1
      obtain ⟨v0, v1, vf⟩ := hx1.box2 (B := w.heap.size) (a := .slice A n c) (b := .int .u64 o) (by first | (simp; done) | (simp (maxDischargeDepth := 7) [go_sem]; done)) (by first | (simp; done) | (simp (maxDischargeDepth := 7) [go_sem]; done)) (by first | (simp; done) | (simp (maxDischargeDepth := 7) [go_sem]; done))
      have vl := lt_of_cell v0
      have rR := rangeAt_ext (range_at (w := w.alloc (.cells #[.slice A n c, .int .u64 o] 28)) (B := w.heap.size + 1) (rootC r) 32 (by simp)) hx1
      go_wp2_with fail
      refine (HM.out _ k1).mono ?_
      rintro e2 w2 ⟨rfl, hx2⟩
      have k2 : Ext w1 w2 := hx2
      replace vf := k2.free v0 vf
      replace v0 := k2.cell v0
      replace v1 := k2.cell v1
      replace vl := lt_of_cell v0
      replace rR := rangeAt_ext rR k2
      go_wp2
      go_ret
      exact ⟨rfl, k1.trans k2⟩
    obtain ⟨k, rfl⟩ := Int.eq_ofNat_of_zero_le (show 0 ≤ val by omega)
    have hk : k < n := by omega
    have hkl : k < LS.length := by omega
    have h8 : k < 8 := by have := (mayV_iff.1 hm).2.1; omega
    have P1 := err_put (r := r) (e := e) hm hkl
    have P2 := put_taken (r := r) (e := e) hm hkl
    have P3 := put_less (r := r) (e := e) hm hkl
    have hput := fun A c W (h : VL W A n c LS) => put_any A n c o ho LS k r hr0 e he W h
    generalize putV LS o k r e = pv at *
    obtain ⟨LS1, o1, kk, er⟩ := pv
    simp only at P1 P2 P3 hput
    subst P1
    have HP := Lib.hid hput
    clear hput hm
    have hbit : o.testBit k = decide (o / 2 ^ k % 2 = 1) := Nat.testBit_eq_decide_div_mod_eq
    obtain ⟨b, off, eA, h0r, hok⟩ := h.at' hk
    generalize hgx : LS.getD k Lat.none = x at P2 P3 h0r hok
    generalize hgb : o.testBit k = bo at P2 P3 hbit
    obtain ⟨q, hq⟩ : ∃ q, sameV LS1 o1 LS o = q := ⟨_, rfl⟩
    rw [hq] at P3
    have HQ := Lib.hid hq
    have HB := Lib.hid hbit
    have H2 := Lib.hid P2
    have H3 := Lib.hid P3
    clear hq hbit P2 P3 hgx hgb hkl
    have d0 := h0r 0 (.bool x.has) rfl
    have d33 := h0r 33 (.int .u64 x.epoch) (Lat.at33 hok)
    simp only [Nat.add_zero] at d0
    have g1 : (k : Int) < n := by omega
    subst eA
    clear h0r
    go_enter Try.func6, Try.ntmps6
    go_wp2_with fail
    refine (HA.out _).mono ?_
    rintro e1 w1 ⟨rfl, hx1⟩
    have k1 : Ext w w1 := Ext.trans ((by repeat (first | assumption | exact Ext.refl _ | refine Ext.alloc ?_ _ | refine Ext.drew ?_ | refine Ext.drewN ?_ _ | refine Ext.setCell ?_ (by first | (simp; done) | omega | (simp; omega)) _ | refine Ext.trans (by assumption) ?_))) hx1
    obtain ⟨v0, v1, vf⟩ := hx1.box2 (B := w.heap.size) (a := .slice (some ⟨b, off, none⟩) n c) (b := .int .u64 o) (by first | (simp; done) | (simp (maxDischargeDepth := 7) [go_sem]; done)) (by first | (simp; done) | (simp (maxDischargeDepth := 7) [go_sem]; done)) (by first | (simp; done) | (simp (maxDischargeDepth := 7) [go_sem]; done))
    have vl := lt_of_cell v0
    have rR := rangeAt_ext (range_at (w := w.alloc (.cells #[.slice (some ⟨b, off, none⟩) n c, .int .u64 o] 28)) (B := w.heap.size + 1) (rootC r) 32 (by simp)) hx1
    go_wp2_with fail
    refine (HM.out _ k1).mono ?_
    rintro e2 w2 ⟨rfl, hx2⟩
    have k2 : Ext w1 w2 := hx2
    replace vf := k2.free v0 vf
    replace v0 := k2.cell v0
    replace v1 := k2.cell v1
    replace vl := lt_of_cell v0
    replace rR := rangeAt_ext rR k2
    go_wp2_with (refine wpList_load_mid rfl 32 _ rfl _ _ rfl (rootC r) _ (rangeAt_ext rR ((by repeat (first | assumption | exact Ext.refl _ | refine Ext.alloc ?_ _ | refine Ext.drew ?_ | refine Ext.drewN ?_ _ | refine Ext.setCell ?_ (by first | (simp; done) | omega | (simp; omega)) _ | refine Ext.trans (by assumption) ?_)))) Try.underlying32 rfl hi32 ?_)
    refine (HP.out _ _ _ (h.ext (k1.trans k2))).mono ?_
    rintro e3 w3 ⟨⟨A3, c3, rfl, h3⟩, hx3⟩
    have k3 : Ext w2 w3 := Ext.trans ((by repeat (first | assumption | exact Ext.refl _ | refine Ext.alloc ?_ _ | refine Ext.drew ?_ | refine Ext.drewN ?_ _ | refine Ext.setCell ?_ (by first | (simp; done) | omega | (simp; omega)) _ | refine Ext.trans (by assumption) ?_))) hx3
    replace vf := k3.free v0 vf
    replace v0 := k3.cell v0
    replace v1 := k3.cell v1
    replace vl := lt_of_cell v0
    have h0 := h.ext (k1.trans (k2.trans k3))
    replace d0 := (k1.trans (k2.trans k3)).cell d0
    replace d33 := (k1.trans (k2.trans k3)).cell d33
    have dl := lt_of_cell d0
    clear rR HP HA HM h hx1 hx2 hx3 hi32
    go_wp2
    go_loopw [13, 14] (fun y i wr => ∃ j : Nat, j ≤ k ∧ i = .int .i64 j ∧ y = .int .u64 (2 ^ j : Nat) ∧ wr = w3.alloc (.cells #[.slice A3 n c3, .int .u64 o1] 28)) (fun _ i _ => k - (intOf i).toNat)
    case atStart => exact ⟨0, Nat.zero_le _, rfl, rfl, rfl⟩
    case round =>
      obtain ⟨j, hj, rfl, rfl, rfl⟩ := hrel
      by_cases hlt : j < k
      · have hp : 2 ^ (j + 1) ≤ 2 ^ 8 := Nat.pow_le_pow_right (by omega) (by omega)
        have hp' := Nat.pow_succ 2 j
        have hw : IntKind.u64.wrap (2 * ((2 ^ j : Nat) : Int)) = ((2 ^ (j + 1) : Nat) : Int) := by rw [IntKind.wrap_u64]; omega
        generalize hX : 2 ^ j = X at hw hp'
        generalize hY : 2 ^ (j + 1) = Y at hw hp hp'
        have HY := Lib.hid hY
        clear hY hX hp hp'
        go_wp2
        go_roundw
        case rel => exact ⟨j + 1, by omega, by go_num, by rw [HY.out], by first | rfl | trivial⟩
        case measure => simp [intOf]; omega
      · have ej : j = k := by omega
        subst ej
        have hp0 : 0 < 2 ^ j := Nat.two_pow_pos j
        have hp : 2 ^ j ≤ 2 ^ 8 := Nat.pow_le_pow_right (by omega) (by omega)
        have HBo := HB.out
        generalize 2 ^ j = X at *
        have hlt2 : o / X < 18446744073709551616 := Nat.lt_of_le_of_lt (Nat.div_le_self _ _) ho
        obtain ⟨Q, hQ0⟩ : ∃ Q, o / X = Q := ⟨_, rfl⟩
        have hw : IntKind.u64.wrap ((o : Int) / (X : Int)) = (Q : Int) := by rw [← Int.natCast_ediv, hQ0, IntKind.wrap_u64]; omega
        rw [hQ0] at HBo
        have hgq : ((Q : Int) % 2 == 1) = bo := by
          rw [HBo, Bool.eq_iff_iff]
          simp
          omega
        clear HBo hQ0 hlt2 HB
        have g2 : ((X : Int) == 0) = false := by simp; omega
        have HT := H2.out
        have HL := H3.out
        clear H2 H3
        obtain ⟨bh, hh⟩ : ∃ bh, x.has = bh := ⟨_, rfl⟩
        rw [hh] at d0 HT HL
        cases bo with
        | true =>
          have eq1 : q = true := HL (.inl rfl)
          subst eq1
          have gt : (kk == 1) = false := by rw [HT]; simp
          clear HT HL
          cases bh with
          | false =>
            go_wp2_with fail
            refine (refSame_is _ (h3.ext ((by repeat (first | assumption | exact Ext.refl _ | refine Ext.alloc ?_ _ | refine Ext.drew ?_ | refine Ext.drewN ?_ _ | refine Ext.setCell ?_ (by first | (simp; done) | omega | (simp; omega)) _ | refine Ext.trans (by assumption) ?_)))) (h0.ext ((by repeat (first | assumption | exact Ext.refl _ | refine Ext.alloc ?_ _ | refine Ext.drew ?_ | refine Ext.drewN ?_ _ | refine Ext.setCell ?_ (by first | (simp; done) | omega | (simp; omega)) _ | refine Ext.trans (by assumption) ?_)))) HQ.out).mono ?_
            rintro e5 w5 ⟨rfl, hx5⟩
            have k5 : Ext w3 w5 := Ext.trans ((by repeat (first | assumption | exact Ext.refl _ | refine Ext.alloc ?_ _ | refine Ext.drew ?_ | refine Ext.drewN ?_ _ | refine Ext.setCell ?_ (by first | (simp; done) | omega | (simp; omega)) _ | refine Ext.trans (by assumption) ?_))) hx5
            clear h3 h0 HQ
            go_wp2
            go_ret
            exact ⟨rfl, k1.trans (k2.trans (k3.trans k5))⟩
          | true =>
            rcases Nat.lt_trichotomy x.epoch e with hlt | heq | hgt
            · have g5 : (x.epoch : Int) < e := by omega
              have g6 : ¬ (e : Int) < x.epoch := by omega
              go_wp2_with fail
              refine (refSame_is _ (h3.ext ((by repeat (first | assumption | exact Ext.refl _ | refine Ext.alloc ?_ _ | refine Ext.drew ?_ | refine Ext.drewN ?_ _ | refine Ext.setCell ?_ (by first | (simp; done) | omega | (simp; omega)) _ | refine Ext.trans (by assumption) ?_)))) (h0.ext ((by repeat (first | assumption | exact Ext.refl _ | refine Ext.alloc ?_ _ | refine Ext.drew ?_ | refine Ext.drewN ?_ _ | refine Ext.setCell ?_ (by first | (simp; done) | omega | (simp; omega)) _ | refine Ext.trans (by assumption) ?_)))) HQ.out).mono ?_
              rintro e5 w5 ⟨rfl, hx5⟩
              have k5 : Ext w3 w5 := Ext.trans ((by repeat (first | assumption | exact Ext.refl _ | refine Ext.alloc ?_ _ | refine Ext.drew ?_ | refine Ext.drewN ?_ _ | refine Ext.setCell ?_ (by first | (simp; done) | omega | (simp; omega)) _ | refine Ext.trans (by assumption) ?_))) hx5
              clear h3 h0 HQ
              go_wp2
              go_ret
              exact ⟨rfl, k1.trans (k2.trans (k3.trans k5))⟩
            · have g5 : ¬ (x.epoch : Int) < e := by omega
              have g6 : ¬ (e : Int) < x.epoch := by omega
              go_wp2_with fail
              refine (refSame_is _ (h3.ext ((by repeat (first | assumption | exact Ext.refl _ | refine Ext.alloc ?_ _ | refine Ext.drew ?_ | refine Ext.drewN ?_ _ | refine Ext.setCell ?_ (by first | (simp; done) | omega | (simp; omega)) _ | refine Ext.trans (by assumption) ?_)))) (h0.ext ((by repeat (first | assumption | exact Ext.refl _ | refine Ext.alloc ?_ _ | refine Ext.drew ?_ | refine Ext.drewN ?_ _ | refine Ext.setCell ?_ (by first | (simp; done) | omega | (simp; omega)) _ | refine Ext.trans (by assumption) ?_)))) HQ.out).mono ?_
              rintro e5 w5 ⟨rfl, hx5⟩
              have k5 : Ext w3 w5 := Ext.trans ((by repeat (first | assumption | exact Ext.refl _ | refine Ext.alloc ?_ _ | refine Ext.drew ?_ | refine Ext.drewN ?_ _ | refine Ext.setCell ?_ (by first | (simp; done) | omega | (simp; omega)) _ | refine Ext.trans (by assumption) ?_))) hx5
              clear h3 h0 HQ
              go_wp2
              go_ret
              exact ⟨rfl, k1.trans (k2.trans (k3.trans k5))⟩
            · have g5 : ¬ (x.epoch : Int) < e := by omega
              have g6 : (e : Int) < x.epoch := by omega
              go_wp2_with fail
              refine (refSame_is _ (h3.ext ((by repeat (first | assumption | exact Ext.refl _ | refine Ext.alloc ?_ _ | refine Ext.drew ?_ | refine Ext.drewN ?_ _ | refine Ext.setCell ?_ (by first | (simp; done) | omega | (simp; omega)) _ | refine Ext.trans (by assumption) ?_)))) (h0.ext ((by repeat (first | assumption | exact Ext.refl _ | refine Ext.alloc ?_ _ | refine Ext.drew ?_ | refine Ext.drewN ?_ _ | refine Ext.setCell ?_ (by first | (simp; done) | omega | (simp; omega)) _ | refine Ext.trans (by assumption) ?_)))) HQ.out).mono ?_
              rintro e5 w5 ⟨rfl, hx5⟩
              have k5 : Ext w3 w5 := Ext.trans ((by repeat (first | assumption | exact Ext.refl _ | refine Ext.alloc ?_ _ | refine Ext.drew ?_ | refine Ext.drewN ?_ _ | refine Ext.setCell ?_ (by first | (simp; done) | omega | (simp; omega)) _ | refine Ext.trans (by assumption) ?_))) hx5
              clear h3 h0 HQ
              go_wp2
              go_ret
              exact ⟨rfl, k1.trans (k2.trans (k3.trans k5))⟩
        | false =>
          cases bh with
          | false =>
            have gt : (kk == 1) = true := by rw [HT]; simp
            clear HT HL
            cases q
            · go_wp2_with fail
              refine (refSame_is _ (h3.ext ((by repeat (first | assumption | exact Ext.refl _ | refine Ext.alloc ?_ _ | refine Ext.drew ?_ | refine Ext.drewN ?_ _ | refine Ext.setCell ?_ (by first | (simp; done) | omega | (simp; omega)) _ | refine Ext.trans (by assumption) ?_)))) (h0.ext ((by repeat (first | assumption | exact Ext.refl _ | refine Ext.alloc ?_ _ | refine Ext.drew ?_ | refine Ext.drewN ?_ _ | refine Ext.setCell ?_ (by first | (simp; done) | omega | (simp; omega)) _ | refine Ext.trans (by assumption) ?_)))) HQ.out).mono ?_
              rintro e5 w5 ⟨rfl, hx5⟩
              have k5 : Ext w3 w5 := Ext.trans ((by repeat (first | assumption | exact Ext.refl _ | refine Ext.alloc ?_ _ | refine Ext.drew ?_ | refine Ext.drewN ?_ _ | refine Ext.setCell ?_ (by first | (simp; done) | omega | (simp; omega)) _ | refine Ext.trans (by assumption) ?_))) hx5
              clear h3 h0 HQ
              go_wp2
              go_ret
              exact ⟨rfl, k1.trans (k2.trans (k3.trans k5))⟩
            · go_wp2_with fail
              refine (refSame_is _ (h3.ext ((by repeat (first | assumption | exact Ext.refl _ | refine Ext.alloc ?_ _ | refine Ext.drew ?_ | refine Ext.drewN ?_ _ | refine Ext.setCell ?_ (by first | (simp; done) | omega | (simp; omega)) _ | refine Ext.trans (by assumption) ?_)))) (h0.ext ((by repeat (first | assumption | exact Ext.refl _ | refine Ext.alloc ?_ _ | refine Ext.drew ?_ | refine Ext.drewN ?_ _ | refine Ext.setCell ?_ (by first | (simp; done) | omega | (simp; omega)) _ | refine Ext.trans (by assumption) ?_)))) HQ.out).mono ?_
              rintro e5 w5 ⟨rfl, hx5⟩
              have k5 : Ext w3 w5 := Ext.trans ((by repeat (first | assumption | exact Ext.refl _ | refine Ext.alloc ?_ _ | refine Ext.drew ?_ | refine Ext.drewN ?_ _ | refine Ext.setCell ?_ (by first | (simp; done) | omega | (simp; omega)) _ | refine Ext.trans (by assumption) ?_))) hx5
              clear h3 h0 HQ
              go_wp2
              go_ret
              exact ⟨rfl, k1.trans (k2.trans (k3.trans k5))⟩
          | true =>
            rcases Nat.lt_trichotomy x.epoch e with hlt | heq | hgt
            · have g5 : (x.epoch : Int) < e := by omega
              have g6 : ¬ (e : Int) < x.epoch := by omega
              have gt : (kk == 1) = true := by rw [HT]; simp [hlt]
              clear HT HL
              cases q
              · go_wp2_with fail
                refine (refSame_is _ (h3.ext ((by repeat (first | assumption | exact Ext.refl _ | refine Ext.alloc ?_ _ | refine Ext.drew ?_ | refine Ext.drewN ?_ _ | refine Ext.setCell ?_ (by first | (simp; done) | omega | (simp; omega)) _ | refine Ext.trans (by assumption) ?_)))) (h0.ext ((by repeat (first | assumption | exact Ext.refl _ | refine Ext.alloc ?_ _ | refine Ext.drew ?_ | refine Ext.drewN ?_ _ | refine Ext.setCell ?_ (by first | (simp; done) | omega | (simp; omega)) _ | refine Ext.trans (by assumption) ?_)))) HQ.out).mono ?_
                rintro e5 w5 ⟨rfl, hx5⟩
                have k5 : Ext w3 w5 := Ext.trans ((by repeat (first | assumption | exact Ext.refl _ | refine Ext.alloc ?_ _ | refine Ext.drew ?_ | refine Ext.drewN ?_ _ | refine Ext.setCell ?_ (by first | (simp; done) | omega | (simp; omega)) _ | refine Ext.trans (by assumption) ?_))) hx5
                clear h3 h0 HQ
                go_wp2
                go_ret
                exact ⟨rfl, k1.trans (k2.trans (k3.trans k5))⟩
              · go_wp2_with fail
                refine (refSame_is _ (h3.ext ((by repeat (first | assumption | exact Ext.refl _ | refine Ext.alloc ?_ _ | refine Ext.drew ?_ | refine Ext.drewN ?_ _ | refine Ext.setCell ?_ (by first | (simp; done) | omega | (simp; omega)) _ | refine Ext.trans (by assumption) ?_)))) (h0.ext ((by repeat (first | assumption | exact Ext.refl _ | refine Ext.alloc ?_ _ | refine Ext.drew ?_ | refine Ext.drewN ?_ _ | refine Ext.setCell ?_ (by first | (simp; done) | omega | (simp; omega)) _ | refine Ext.trans (by assumption) ?_)))) HQ.out).mono ?_
                rintro e5 w5 ⟨rfl, hx5⟩
                have k5 : Ext w3 w5 := Ext.trans ((by repeat (first | assumption | exact Ext.refl _ | refine Ext.alloc ?_ _ | refine Ext.drew ?_ | refine Ext.drewN ?_ _ | refine Ext.setCell ?_ (by first | (simp; done) | omega | (simp; omega)) _ | refine Ext.trans (by assumption) ?_))) hx5
                clear h3 h0 HQ
                go_wp2
                go_ret
                exact ⟨rfl, k1.trans (k2.trans (k3.trans k5))⟩
            · have g5 : ¬ (x.epoch : Int) < e := by omega
              have g6 : ¬ (e : Int) < x.epoch := by omega
              have gt : (kk == 1) = false := by rw [HT]; simp; omega
              clear HT HL
              cases q
              · go_wp2_with fail
                refine (refSame_is _ (h3.ext ((by repeat (first | assumption | exact Ext.refl _ | refine Ext.alloc ?_ _ | refine Ext.drew ?_ | refine Ext.drewN ?_ _ | refine Ext.setCell ?_ (by first | (simp; done) | omega | (simp; omega)) _ | refine Ext.trans (by assumption) ?_)))) (h0.ext ((by repeat (first | assumption | exact Ext.refl _ | refine Ext.alloc ?_ _ | refine Ext.drew ?_ | refine Ext.drewN ?_ _ | refine Ext.setCell ?_ (by first | (simp; done) | omega | (simp; omega)) _ | refine Ext.trans (by assumption) ?_)))) HQ.out).mono ?_
                rintro e5 w5 ⟨rfl, hx5⟩
                have k5 : Ext w3 w5 := Ext.trans ((by repeat (first | assumption | exact Ext.refl _ | refine Ext.alloc ?_ _ | refine Ext.drew ?_ | refine Ext.drewN ?_ _ | refine Ext.setCell ?_ (by first | (simp; done) | omega | (simp; omega)) _ | refine Ext.trans (by assumption) ?_))) hx5
                clear h3 h0 HQ
                go_wp2
                go_ret
                exact ⟨rfl, k1.trans (k2.trans (k3.trans k5))⟩
              · go_wp2_with fail
                refine (refSame_is _ (h3.ext ((by repeat (first | assumption | exact Ext.refl _ | refine Ext.alloc ?_ _ | refine Ext.drew ?_ | refine Ext.drewN ?_ _ | refine Ext.setCell ?_ (by first | (simp; done) | omega | (simp; omega)) _ | refine Ext.trans (by assumption) ?_)))) (h0.ext ((by repeat (first | assumption | exact Ext.refl _ | refine Ext.alloc ?_ _ | refine Ext.drew ?_ | refine Ext.drewN ?_ _ | refine Ext.setCell ?_ (by first | (simp; done) | omega | (simp; omega)) _ | refine Ext.trans (by assumption) ?_)))) HQ.out).mono ?_
                rintro e5 w5 ⟨rfl, hx5⟩
                have k5 : Ext w3 w5 := Ext.trans ((by repeat (first | assumption | exact Ext.refl _ | refine Ext.alloc ?_ _ | refine Ext.drew ?_ | refine Ext.drewN ?_ _ | refine Ext.setCell ?_ (by first | (simp; done) | omega | (simp; omega)) _ | refine Ext.trans (by assumption) ?_))) hx5
                clear h3 h0 HQ
                go_wp2
                go_ret
                exact ⟨rfl, k1.trans (k2.trans (k3.trans k5))⟩
            · have g5 : ¬ (x.epoch : Int) < e := by omega
              have g6 : (e : Int) < x.epoch := by omega
              have gt : (kk == 1) = false := by rw [HT]; simp; omega
              have eq1 : q = true := HL (.inr ⟨rfl, hgt⟩)
              subst eq1
              clear HT HL
              go_wp2_with fail
              refine (refSame_is _ (h3.ext ((by repeat (first | assumption | exact Ext.refl _ | refine Ext.alloc ?_ _ | refine Ext.drew ?_ | refine Ext.drewN ?_ _ | refine Ext.setCell ?_ (by first | (simp; done) | omega | (simp; omega)) _ | refine Ext.trans (by assumption) ?_)))) (h0.ext ((by repeat (first | assumption | exact Ext.refl _ | refine Ext.alloc ?_ _ | refine Ext.drew ?_ | refine Ext.drewN ?_ _ | refine Ext.setCell ?_ (by first | (simp; done) | omega | (simp; omega)) _ | refine Ext.trans (by assumption) ?_)))) HQ.out).mono ?_
              rintro e5 w5 ⟨rfl, hx5⟩
              have k5 : Ext w3 w5 := Ext.trans ((by repeat (first | assumption | exact Ext.refl _ | refine Ext.alloc ?_ _ | refine Ext.drew ?_ | refine Ext.drewN ?_ _ | refine Ext.setCell ?_ (by first | (simp; done) | omega | (simp; omega)) _ | refine Ext.trans (by assumption) ?_))) hx5
              clear h3 h0 HQ
              go_wp2
              go_ret
              exact ⟨rfl, k1.trans (k2.trans (k3.trans k5))⟩
set_option maxRecDepth 100000 in
theorem VoteLater_lifted (os : Os) (started : os.Started) (H : Type) (enc : TypeId × Value → H) :
    ReturnsInHanded {} Try.checked os 6 .any (Rows.voteLaterSpec.pre6 enc Try.prog Try.f6 Rows.voteLaterRow.domain false) (Rows.voteLaterSpec.post enc Try.prog Try.f6 false true false false) := by
  refine returnsInHanded_of_change_sized (C := Try.checked) own started (by kernel_rfl) Try.func6
    (ChangeSpec.witness6 (enc := enc) (C := Try.checked) false ⟨#[], #[.agg #[.slice none 0 0, .int .u64 0], .int .i64 0, .agg (rootC zeroR).toArray, .int .u64 0], []⟩ 8 (by kernel_rfl) (by kernel_rfl) (by kernel_rfl) (by kernel_rfl)) ?_
  intro W base args ds gs before hval0 hW _hcnd hsz0 _
  have hval : ∀ (j : Nat) t v, Try.f6.params[j]? = some t → args[j]? = some v → Value.okWide Try.prog W .any base t v := hval0
  have hsz : (DataW.weightsEach Try.prog (Try.f6.params.toList ++ Rows.voteLaterSpec.plain.varTypes Try.prog) (ds ++ gs)).all (· ≤ reachBytes) = true := hsz0
  have hW' := hW
  obtain ⟨p, q, hA0, hV, rfl, hfz, hnd⟩ := hW
  have hA : DataW.TrodAll enc Try.prog W 0 (fun _ => true) true Try.f6.params.toList args.toList ds p := hA0
  rw [Try.params6] at hA hval hsz
  obtain ⟨v0, vs0, d0, ds0, p0, q0, hargs, rfl, rfl, h0, r0⟩ := trodAll_cons hA
  obtain ⟨v1, vs1, d1, ds1, p1, q1, rfl, rfl, rfl, h1, r1⟩ := trodAll_cons r0
  obtain ⟨v2, vs2, d2, ds2, p2, q2, rfl, rfl, rfl, h2, r2⟩ := trodAll_cons r1
  obtain ⟨v3, vs3, d3, ds3, p3, q3, rfl, rfl, rfl, h3, r3⟩ := trodAll_cons r2
  obtain ⟨rfl, rfl, rfl⟩ := trodAll_nil r3
  obtain rfl : args = #[v0, v1, v2, v3] := by cases args; simp_all
  obtain ⟨rfl, rfl⟩ := trodVars_none hV
  have h0k := h0
  have h1k := h1
  have h2k := h2
  have h3k := h3
  have hlt0 : ∀ x ∈ p0, x.block < W.heap.size := fun x hx => by have := hW'.lt x (by simp [hx]); simpa using this
  have hlt1 : ∀ x ∈ p1, x.block < W.heap.size := fun x hx => by have := hW'.lt x (by simp [hx]); simpa using this
  have hlt2 : ∀ x ∈ p2, x.block < W.heap.size := fun x hx => by have := hW'.lt x (by simp [hx]); simpa using this
  have hlt3 : ∀ x ∈ p3, x.block < W.heap.size := fun x hx => by have := hW'.lt x (by simp [hx]); simpa using this
  obtain ⟨vA, vn, vc, v, vo, rfl, hv, hov⟩ := open_votes (hval 0 28 v0 rfl rfl) h0 hsz (j := 0) rfl rfl
  obtain ⟨val, rfl, hval1, hval2⟩ := open_I64 Try.underlying3 (hval 1 3 v1 rfl rfl) h1
  obtain ⟨r, rfl, hr⟩ := open_root (hval 2 32 v2 rfl rfl) h2
  obtain ⟨e, rfl, he⟩ := open_U64 Try.underlying26 (hval 3 26 v3 rfl rfl) h3
  clear hA0 hval0
  simp only [List.append_nil] at hW'
  refine (VoteLater_walk vA vn vc v vo hov hv val hval1 hval2 r hr e he (w := W)).mono fun e W' ⟨he, hg⟩ => ?_
  subst he
  exact ⟨_, rfl, post_law (pa := p0 ++ (p1 ++ (p2 ++ (p3 ++ [])))) (pv := []) hW' (fun _ _ _ => (trodAll_cons_mk (shut_bool Try.underlying4 _) trodAll_mk0))
    (trodAll_cons_mk (Below.trod laidOut (by kernel_rfl) (of_decide_eq_true (by kernel_rfl)) h0k hg.out hlt0) (trodAll_cons_mk (Below.trod laidOut (by kernel_rfl) (of_decide_eq_true (by kernel_rfl)) h1k hg.out hlt1) (trodAll_cons_mk (Below.trod laidOut (by kernel_rfl) (of_decide_eq_true (by kernel_rfl)) h2k hg.out hlt2) (trodAll_cons_mk (Below.trod laidOut (by kernel_rfl) (of_decide_eq_true (by kernel_rfl)) h3k hg.out hlt3) trodAll_mk0)))) rfl (by simp) hg⟩
theorem VoteLater_holds : Rows.VoteLaterSaid :=
  OpenClaim.holds_of_wide 6 Try.f6 rfl rfl rfl rfl rfl rfl rfl ⟨rfl, rfl, rfl, rfl, rfl⟩ rfl rfl rfl rfl rfl (by kernel_rfl) Try.func6 (by kernel_rfl)
    (of_decide_eq_true (by kernel_rfl)) (by unfold Func.isWrapper; first | (rw [if_pos (by decide +kernel)]; kernel_rfl) | (rw [if_neg (by decide +kernel)]; exact ⟨rfl, rfl⟩))
    (fun os started H enc _ => VoteLater_lifted os started H enc)
#print axioms VoteLater_holds
end Go.Proofs.Ytnpopepannimiaa
