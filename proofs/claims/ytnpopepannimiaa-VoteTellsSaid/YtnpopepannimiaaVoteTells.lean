/- VoteTells: any votes have one put, are begun and dropped, may be, or not, and two are the same, or not, as the document says. No conditions. -/
import Derived.Test.YtnpopepannimiaaVoteRefDrop
import Derived.Test.YtnpopepannimiaaVoteRefTwice
import Derived.Test.YtnpopepannimiaaVoteLaw
import Derived.Deep.DeepCutAuto
import Derived.Deep.RegionHeld3
namespace Go.Proofs.Ytnpopepannimiaa
open Go.RowKit Go.WideShapes Go.ChangeShapes Go.Joins Go.Deep Go.Sort
set_option linter.unusedVariables false
set_option linter.unusedSimpArgs false








theorem rvsame_self (A : Option Addr) (n c o : Nat) (LS : List Lat) (B : Option Addr) (m d : Nat) (w : World) (h : VL w A n c LS) (g : VL w B m d LS) :
    Calls Try.prog 14 #[.agg #[.slice A n c, .int .u64 o], .agg #[.slice B m d, .int .u64 o]] w fun e w' => e = .returned (.bool true) ∧ Ext w w' := by
  have k := refSame_any A n c o LS B m d o LS w h g
  rw [show sameV LS o LS o = true by unfold sameV; simp] at k
  exact k
theorem keepU {W W' : World} {B : Nat} {a b : Value} (h0 : W.cell? ⟨B, 0, none⟩ = some a) (h1 : W.cell? ⟨B, 1, none⟩ = some b) (hx : Ext W W') :
    W'.cell? ⟨B, 0, none⟩ = some a ∧ W'.cell? ⟨B, 1, none⟩ = some b := ⟨hx.cell h0, hx.cell h1⟩
set_option maxRecDepth 8000 in
set_option maxHeartbeats 4000000 in
theorem VoteTells_walk {w : World} (A : Option Addr) (n c : Nat) (LS : List Lat) (o : Nat) (ho : o < 18446744073709551616) (h : VL w A n c LS) (B : Option Addr) (m d : Nat) (MS : List Lat) (o2 : Nat) (ho2 : o2 < 18446744073709551616) (g : VL w B m d MS) (val : Int) (q1 : -9223372036854775808 ≤ val) (q2 : val ≤ 9223372036854775807) (r : List Int) (hr0 : RootOk r) (e : Nat) (he : e < 18446744073709551616) (KA : Option Addr) (kn kc : Nat) (KS : List (List Int)) (hK : RL w KA kn kc KS) :
    Calls Try.prog 7 #[.agg #[.slice A n c, .int .u64 o], .agg #[.slice B m d, .int .u64 o2], .int .i64 val, .agg (rootC r).toArray, .int .u64 e, .slice KA kn kc] w fun e' w' => e' = .returned (.bool true) ∧ Ext w w' := by
  have HA := Lib.hid (fun W => awake_any W)
  have hi32 : (Try.prog.info? 32).map (·.size) = some (rootC r).length := by rw [rootC_len hr0]; kernel_rfl
  have HP := Lib.hid (fun W (k : Ext w W) => put_any A n c o ho LS val r hr0 e he W (h.ext k))
  have HRP := Lib.hid (fun W (k : Ext w W) => rput_any A n c o ho LS val r hr0 e he W (h.ext k))
  have HD := Lib.hid (fun W (k : Ext w W) => drop_any A n c o ho LS KA kn kc KS W (h.ext k) (hK.ext k))
  have HRD := Lib.hid (fun W (k : Ext w W) => rvdrop_any A n c o ho LS KA kn kc KS W (h.ext k) (hK.ext k))
  have HN := Lib.hid (fun W => new_any val W)
  have HRN := Lib.hid (fun W => rvnew_any val W)
  have HM := Lib.hid (fun W (k : Ext w W) => vmay_any A n c o ho LS W (h.ext k))
  have HRM := Lib.hid (fun W (k : Ext w W) => rvmay_any A n c o ho LS W (h.ext k))
  have HS := Lib.hid (fun W (k : Ext w W) => same_any A n c o LS B m d o2 MS W (h.ext k) (g.ext k))
  have HRS := Lib.hid (fun W (k : Ext w W) => refSame_any A n c o LS B m d o2 MS W (h.ext k) (g.ext k))
  clear h g hK
  by_cases h1 : 70 < n
  · have g1 : (70 : Int) < n := by omega
    clear HP HRP HD HRD HN HRN HM HRM HS HRS
    go_enter Try.func7, Try.ntmps7
    go_wp2_with fail
    refine (HA.out _).mono ?_
    rintro e0 w0 ⟨rfl, hx0⟩
    have k0 : Ext w w0 := Ext.trans ((by repeat (first | assumption | exact Ext.refl _ | refine Ext.alloc ?_ _ | refine Ext.drew ?_ | refine Ext.drewN ?_ _ | refine Ext.setCell ?_ (by first | (simp; done) | omega | (simp; omega)) _ | refine Ext.trans (by assumption) ?_))) hx0
    obtain ⟨u0, u1, uf⟩ := hx0.box2 (B := w.heap.size) (a := .slice A n c) (b := .int .u64 o) (by first | (simp; done) | (simp (maxDischargeDepth := 7) [go_sem]; done)) (by first | (simp; done) | (simp (maxDischargeDepth := 7) [go_sem]; done)) (by first | (simp; done) | (simp (maxDischargeDepth := 7) [go_sem]; done))
    have ul := lt_of_cell u0
    obtain ⟨v0, v1, vf⟩ := hx0.box2 (B := w.heap.size + 1) (a := .slice B m d) (b := .int .u64 o2) (by first | (simp; done) | (simp (maxDischargeDepth := 7) [go_sem]; done)) (by first | (simp; done) | (simp (maxDischargeDepth := 7) [go_sem]; done)) (by first | (simp; done) | (simp (maxDischargeDepth := 7) [go_sem]; done))
    have vl := lt_of_cell v0
    have rR := rangeAt_ext (range_at (w := (w.alloc (.cells #[.slice A n c, .int .u64 o] 28)).alloc (.cells #[.slice B m d, .int .u64 o2] 28)) (B := w.heap.size + 1 + 1) (rootC r) 32 (by simp)) hx0
    go_wp2
    go_ret
    exact ⟨rfl, k0⟩
  have g1 : ¬ (70 : Int) < n := by omega
  by_cases h2 : 70 < m
  · have g2 : (70 : Int) < m := by omega
    clear HP HRP HD HRD HN HRN HM HRM HS HRS
    go_enter Try.func7, Try.ntmps7
    go_wp2_with fail
    refine (HA.out _).mono ?_
    rintro e0 w0 ⟨rfl, hx0⟩
    have k0 : Ext w w0 := Ext.trans ((by repeat (first | assumption | exact Ext.refl _ | refine Ext.alloc ?_ _ | refine Ext.drew ?_ | refine Ext.drewN ?_ _ | refine Ext.setCell ?_ (by first | (simp; done) | omega | (simp; omega)) _ | refine Ext.trans (by assumption) ?_))) hx0
    obtain ⟨u0, u1, uf⟩ := hx0.box2 (B := w.heap.size) (a := .slice A n c) (b := .int .u64 o) (by first | (simp; done) | (simp (maxDischargeDepth := 7) [go_sem]; done)) (by first | (simp; done) | (simp (maxDischargeDepth := 7) [go_sem]; done)) (by first | (simp; done) | (simp (maxDischargeDepth := 7) [go_sem]; done))
    have ul := lt_of_cell u0
    obtain ⟨v0, v1, vf⟩ := hx0.box2 (B := w.heap.size + 1) (a := .slice B m d) (b := .int .u64 o2) (by first | (simp; done) | (simp (maxDischargeDepth := 7) [go_sem]; done)) (by first | (simp; done) | (simp (maxDischargeDepth := 7) [go_sem]; done)) (by first | (simp; done) | (simp (maxDischargeDepth := 7) [go_sem]; done))
    have vl := lt_of_cell v0
    have rR := rangeAt_ext (range_at (w := (w.alloc (.cells #[.slice A n c, .int .u64 o] 28)).alloc (.cells #[.slice B m d, .int .u64 o2] 28)) (B := w.heap.size + 1 + 1) (rootC r) 32 (by simp)) hx0
    go_wp2
    go_ret
    exact ⟨rfl, k0⟩
  have g2 : ¬ (70 : Int) < m := by omega
  by_cases h3 : 40 < kn
  · have g3 : (40 : Int) < kn := by omega
    clear HP HRP HD HRD HN HRN HM HRM HS HRS
    go_enter Try.func7, Try.ntmps7
    go_wp2_with fail
    refine (HA.out _).mono ?_
    rintro e0 w0 ⟨rfl, hx0⟩
    have k0 : Ext w w0 := Ext.trans ((by repeat (first | assumption | exact Ext.refl _ | refine Ext.alloc ?_ _ | refine Ext.drew ?_ | refine Ext.drewN ?_ _ | refine Ext.setCell ?_ (by first | (simp; done) | omega | (simp; omega)) _ | refine Ext.trans (by assumption) ?_))) hx0
    obtain ⟨u0, u1, uf⟩ := hx0.box2 (B := w.heap.size) (a := .slice A n c) (b := .int .u64 o) (by first | (simp; done) | (simp (maxDischargeDepth := 7) [go_sem]; done)) (by first | (simp; done) | (simp (maxDischargeDepth := 7) [go_sem]; done)) (by first | (simp; done) | (simp (maxDischargeDepth := 7) [go_sem]; done))
    have ul := lt_of_cell u0
    obtain ⟨v0, v1, vf⟩ := hx0.box2 (B := w.heap.size + 1) (a := .slice B m d) (b := .int .u64 o2) (by first | (simp; done) | (simp (maxDischargeDepth := 7) [go_sem]; done)) (by first | (simp; done) | (simp (maxDischargeDepth := 7) [go_sem]; done)) (by first | (simp; done) | (simp (maxDischargeDepth := 7) [go_sem]; done))
    have vl := lt_of_cell v0
    have rR := rangeAt_ext (range_at (w := (w.alloc (.cells #[.slice A n c, .int .u64 o] 28)).alloc (.cells #[.slice B m d, .int .u64 o2] 28)) (B := w.heap.size + 1 + 1) (rootC r) 32 (by simp)) hx0
    go_wp2
    go_ret
    exact ⟨rfl, k0⟩
  have g3 : ¬ (40 : Int) < kn := by omega
  clear h1 h2 h3
  obtain ⟨⟨PL, po, pk, pe⟩, hp⟩ : ∃ p, putV LS o val r e = p := ⟨_, rfl⟩
  obtain ⟨DL, hdl⟩ : ∃ p, dropV LS o KS = p := ⟨_, rfl⟩
  obtain ⟨nb, hnb⟩ : ∃ p, newVB val = p := ⟨_, rfl⟩
  obtain ⟨NL, hnl⟩ : ∃ p, (if nb = true then List.replicate val.toNat Lat.none else []) = p := ⟨_, rfl⟩
  obtain ⟨mb, hmb⟩ : ∃ p, mayV LS o = p := ⟨_, rfl⟩
  obtain ⟨sb, hsb⟩ : ∃ p, sameV LS o MS o2 = p := ⟨_, rfl⟩
  rw [hp] at HP HRP
  rw [hdl] at HD HRD
  rw [hnb, hnl] at HN HRN
  rw [hmb] at HM HRM
  rw [hsb] at HS HRS
  dsimp only at HP HRP
  clear hp hdl hnb hnl hmb hsb
  go_enter Try.func7, Try.ntmps7
  go_wp2_with fail
  refine (HA.out _).mono ?_
  rintro e0 w0 ⟨rfl, hx0⟩
  have k0 : Ext w w0 := Ext.trans ((by repeat (first | assumption | exact Ext.refl _ | refine Ext.alloc ?_ _ | refine Ext.drew ?_ | refine Ext.drewN ?_ _ | refine Ext.setCell ?_ (by first | (simp; done) | omega | (simp; omega)) _ | refine Ext.trans (by assumption) ?_))) hx0
  obtain ⟨u0, u1, uf⟩ := hx0.box2 (B := w.heap.size) (a := .slice A n c) (b := .int .u64 o) (by first | (simp; done) | (simp (maxDischargeDepth := 7) [go_sem]; done)) (by first | (simp; done) | (simp (maxDischargeDepth := 7) [go_sem]; done)) (by first | (simp; done) | (simp (maxDischargeDepth := 7) [go_sem]; done))
  have ul := lt_of_cell u0
  obtain ⟨v0, v1, vf⟩ := hx0.box2 (B := w.heap.size + 1) (a := .slice B m d) (b := .int .u64 o2) (by first | (simp; done) | (simp (maxDischargeDepth := 7) [go_sem]; done)) (by first | (simp; done) | (simp (maxDischargeDepth := 7) [go_sem]; done)) (by first | (simp; done) | (simp (maxDischargeDepth := 7) [go_sem]; done))
  have vl := lt_of_cell v0
  have rR := rangeAt_ext (range_at (w := (w.alloc (.cells #[.slice A n c, .int .u64 o] 28)).alloc (.cells #[.slice B m d, .int .u64 o2] 28)) (B := w.heap.size + 1 + 1) (rootC r) 32 (by simp)) hx0
  clear HA hx0
  go_wp2_with (refine wpList_load_mid rfl 32 _ rfl _ _ rfl (rootC r) _ (rangeAt_ext rR ((by repeat (first | assumption | exact Ext.refl _ | refine Ext.alloc ?_ _ | refine Ext.drew ?_ | refine Ext.drewN ?_ _ | refine Ext.setCell ?_ (by first | (simp; done) | omega | (simp; omega)) _ | refine Ext.trans (by assumption) ?_)))) Try.underlying32 rfl hi32 ?_)
  refine (HP.out _ k0).mono ?_
  rintro e1 w1 ⟨⟨A1, c1, rfl, h1⟩, hx1⟩
  have kk := k0.trans hx1
  replace uf := hx1.free u0 uf
  replace u0 := hx1.cell u0
  replace u1 := hx1.cell u1
  replace ul := lt_of_cell u0
  replace vf := hx1.free v0 vf
  replace v0 := hx1.cell v0
  replace v1 := hx1.cell v1
  replace vl := lt_of_cell v0
  replace rR := rangeAt_ext rR hx1
  clear HP hx1 k0
  go_wp2_with (refine wpList_load_mid rfl 32 _ rfl _ _ rfl (rootC r) _ (rangeAt_ext rR ((by repeat (first | assumption | exact Ext.refl _ | refine Ext.alloc ?_ _ | refine Ext.drew ?_ | refine Ext.drewN ?_ _ | refine Ext.setCell ?_ (by first | (simp; done) | omega | (simp; omega)) _ | refine Ext.trans (by assumption) ?_)))) Try.underlying32 rfl hi32 ?_)
  refine (HRP.out _ (Ext.trans kk ((by repeat (first | assumption | exact Ext.refl _ | refine Ext.alloc ?_ _ | refine Ext.drew ?_ | refine Ext.drewN ?_ _ | refine Ext.setCell ?_ (by first | (simp; done) | omega | (simp; omega)) _ | refine Ext.trans (by assumption) ?_))))).mono ?_
  rintro e2 w2 ⟨⟨A2, c2, rfl, h2⟩, hx2⟩
  have k2 : Ext w1 w2 := Ext.trans ((by repeat (first | assumption | exact Ext.refl _ | refine Ext.alloc ?_ _ | refine Ext.drew ?_ | refine Ext.drewN ?_ _ | refine Ext.setCell ?_ (by first | (simp; done) | omega | (simp; omega)) _ | refine Ext.trans (by assumption) ?_))) hx2
  replace uf := k2.free u0 uf
  replace u0 := k2.cell u0
  replace u1 := k2.cell u1
  replace ul := lt_of_cell u0
  replace vf := k2.free v0 vf
  replace v0 := k2.cell v0
  replace v1 := k2.cell v1
  replace vl := lt_of_cell v0
  obtain ⟨y0, y1, yf⟩ := hx2.box2 (B := w1.heap.size) (a := .slice A1 n c1) (b := .int .u64 po) (by first | (simp; done) | (simp (maxDischargeDepth := 7) [go_sem]; done)) (by first | (simp; done) | (simp (maxDischargeDepth := 7) [go_sem]; done)) (by first | (simp; done) | (simp (maxDischargeDepth := 7) [go_sem]; done))
  have yl := lt_of_cell y0
  replace kk := kk.trans k2
  replace h1 := h1.ext k2
  clear HRP hx2 k2 rR
  have HS2 := Lib.hid (fun W (k : Ext w2 W) => rvsame_self A1 n c1 po PL A2 n c2 W (h1.ext k) (h2.ext k))
  clear h1 h2
  go_wp2_with fail
  refine (HS2.out _ ((by repeat (first | assumption | exact Ext.refl _ | refine Ext.alloc ?_ _ | refine Ext.drew ?_ | refine Ext.drewN ?_ _ | refine Ext.setCell ?_ (by first | (simp; done) | omega | (simp; omega)) _ | refine Ext.trans (by assumption) ?_)))).mono ?_
  rintro e3 w3 ⟨rfl, hx3⟩
  have k3 : Ext w2 w3 := Ext.trans ((by repeat (first | assumption | exact Ext.refl _ | refine Ext.alloc ?_ _ | refine Ext.drew ?_ | refine Ext.drewN ?_ _ | refine Ext.setCell ?_ (by first | (simp; done) | omega | (simp; omega)) _ | refine Ext.trans (by assumption) ?_))) hx3
  replace uf := k3.free u0 uf
  replace u0 := k3.cell u0
  replace u1 := k3.cell u1
  replace ul := lt_of_cell u0
  replace vf := k3.free v0 vf
  replace v0 := k3.cell v0
  replace v1 := k3.cell v1
  replace vl := lt_of_cell v0
  replace kk := kk.trans k3
  clear HS2 hx3 k3 y0 y1 yf yl
  go_upto_region 7 with fail
  have U0 := Lib.hid u0
  have U1 := Lib.hid u1
  go_cut [21] (fun q wx => q = .bool true ∧ Ext w3 wx)
  case first =>
    clear v0 v1 vf vl HN HRN HM HRM HS HRS
    go_region_held3 (fun w' => w'.cell? ⟨w.heap.size, 0, none⟩ = some (.slice A n c) ∧ w'.cell? ⟨w.heap.size, 1, none⟩ = some (.int .u64 o)) (exact keepU U0.out U1.out ((by repeat (first | assumption | exact Ext.refl _ | refine Ext.alloc ?_ _ | refine Ext.drew ?_ | refine Ext.drewN ?_ _ | refine Ext.setCell ?_ (by first | (simp; done) | omega | (simp; omega)) _ | refine Ext.trans (by assumption) ?_)))) (first | (go_at_call 16; (with_reducible refine (HD.out _ (Ext.trans kk ((by repeat (first | assumption | exact Ext.refl _ | refine Ext.alloc ?_ _ | refine Ext.drew ?_ | refine Ext.drewN ?_ _ | refine Ext.setCell ?_ (by first | (simp; done) | omega | (simp; omega)) _ | refine Ext.trans (by assumption) ?_))))).mono ?_); rintro e wa ⟨⟨A5, c5, rfl, h5⟩, hxa⟩; have ka : Ext w3 wa := Ext.trans ((by repeat (first | assumption | exact Ext.refl _ | refine Ext.alloc ?_ _ | refine Ext.drew ?_ | refine Ext.drewN ?_ _ | refine Ext.setCell ?_ (by first | (simp; done) | omega | (simp; omega)) _ | refine Ext.trans (by assumption) ?_))) hxa) | (go_at_call 17; (with_reducible refine (HRD.out _ (Ext.trans kk ((by repeat (first | assumption | exact Ext.refl _ | refine Ext.alloc ?_ _ | refine Ext.drew ?_ | refine Ext.drewN ?_ _ | refine Ext.setCell ?_ (by first | (simp; done) | omega | (simp; omega)) _ | refine Ext.trans (by assumption) ?_))))).mono ?_); rintro e wb ⟨⟨A6, c6, rfl, h6⟩, hxb⟩; have kb : Ext w3 wb := Ext.trans ((by repeat (first | assumption | exact Ext.refl _ | refine Ext.alloc ?_ _ | refine Ext.drew ?_ | refine Ext.drewN ?_ _ | refine Ext.setCell ?_ (by first | (simp; done) | omega | (simp; omega)) _ | refine Ext.trans (by assumption) ?_))) hxb) | (go_at_call 14; (with_reducible refine (rvsame_self A5 n c5 o DL A6 n c6 _ (h5.ext ((by repeat (first | assumption | exact Ext.refl _ | refine Ext.alloc ?_ _ | refine Ext.drew ?_ | refine Ext.drewN ?_ _ | refine Ext.setCell ?_ (by first | (simp; done) | omega | (simp; omega)) _ | refine Ext.trans (by assumption) ?_)))) (h6.ext ((by repeat (first | assumption | exact Ext.refl _ | refine Ext.alloc ?_ _ | refine Ext.drew ?_ | refine Ext.drewN ?_ _ | refine Ext.setCell ?_ (by first | (simp; done) | omega | (simp; omega)) _ | refine Ext.trans (by assumption) ?_))))).mono ?_); rintro e wd ⟨rfl, hxd⟩; have kd : Ext w3 wd := Ext.trans ((by repeat (first | assumption | exact Ext.refl _ | refine Ext.alloc ?_ _ | refine Ext.drew ?_ | refine Ext.drewN ?_ _ | refine Ext.setCell ?_ (by first | (simp; done) | omega | (simp; omega)) _ | refine Ext.trans (by assumption) ?_))) hxd))
    all_goals
      go_wp2_with fail
      go_meet
      exact ⟨rfl, by assumption⟩
  case rest =>
    obtain ⟨rfl, hxc⟩ := hcut
    replace uf := hxc.free u0 uf
    replace u0 := hxc.cell u0
    replace u1 := hxc.cell u1
    replace ul := lt_of_cell u0
    replace vf := hxc.free v0 vf
    replace v0 := hxc.cell v0
    replace v1 := hxc.cell v1
    replace vl := lt_of_cell v0
    replace kk := kk.trans hxc
    clear HD HRD hxc U0 U1
    generalize wc = w4 at *
    go_wp2_with fail
    refine (HN.out _).mono ?_
    rintro e5 w5 ⟨⟨A3, n3, c3, rfl, h3⟩, hx5⟩
    replace uf := hx5.free u0 uf
    replace u0 := hx5.cell u0
    replace u1 := hx5.cell u1
    replace ul := lt_of_cell u0
    replace vf := hx5.free v0 vf
    replace v0 := hx5.cell v0
    replace v1 := hx5.cell v1
    replace vl := lt_of_cell v0
    replace kk := kk.trans hx5
    clear HN hx5
    go_wp2_with fail
    refine (HRN.out _).mono ?_
    rintro e6 w6 ⟨⟨A4, n4, c4, rfl, h4⟩, hx6⟩
    have k6 : Ext w5 w6 := Ext.trans ((by repeat (first | assumption | exact Ext.refl _ | refine Ext.alloc ?_ _ | refine Ext.drew ?_ | refine Ext.drewN ?_ _ | refine Ext.setCell ?_ (by first | (simp; done) | omega | (simp; omega)) _ | refine Ext.trans (by assumption) ?_))) hx6
    replace uf := k6.free u0 uf
    replace u0 := k6.cell u0
    replace u1 := k6.cell u1
    replace ul := lt_of_cell u0
    replace vf := k6.free v0 vf
    replace v0 := k6.cell v0
    replace v1 := k6.cell v1
    replace vl := lt_of_cell v0
    obtain ⟨y0, y1, yf⟩ := hx6.box2 (B := w5.heap.size) (a := .slice A3 n3 c3) (b := .int .u64 0) (by first | (simp; done) | (simp (maxDischargeDepth := 7) [go_sem]; done)) (by first | (simp; done) | (simp (maxDischargeDepth := 7) [go_sem]; done)) (by first | (simp; done) | (simp (maxDischargeDepth := 7) [go_sem]; done))
    have yl := lt_of_cell y0
    replace kk := kk.trans k6
    replace h3 := h3.ext k6
    have HS3 := Lib.hid (fun W (k : Ext w6 W) => rvsame_self A3 n3 c3 0 NL A4 n4 c4 W (h3.ext k) (h4.ext k))
    clear HRN hx6 k6 h3 h4
    go_wp2_with fail
    refine (HS3.out _ ((by repeat (first | assumption | exact Ext.refl _ | refine Ext.alloc ?_ _ | refine Ext.drew ?_ | refine Ext.drewN ?_ _ | refine Ext.setCell ?_ (by first | (simp; done) | omega | (simp; omega)) _ | refine Ext.trans (by assumption) ?_)))).mono ?_
    rintro e7 w7 ⟨rfl, hx7⟩
    have k7 : Ext w6 w7 := Ext.trans ((by repeat (first | assumption | exact Ext.refl _ | refine Ext.alloc ?_ _ | refine Ext.drew ?_ | refine Ext.drewN ?_ _ | refine Ext.setCell ?_ (by first | (simp; done) | omega | (simp; omega)) _ | refine Ext.trans (by assumption) ?_))) hx7
    replace uf := k7.free u0 uf
    replace u0 := k7.cell u0
    replace u1 := k7.cell u1
    replace ul := lt_of_cell u0
    replace vf := k7.free v0 vf
    replace v0 := k7.cell v0
    replace v1 := k7.cell v1
    replace vl := lt_of_cell v0
    replace kk := kk.trans k7
    clear HS3 hx7 k7 y0 y1 yf yl
    go_wp2_with fail
    refine (HRM.out _ kk).mono ?_
    rintro e8 w8 ⟨rfl, hx8⟩
    replace uf := hx8.free u0 uf
    replace u0 := hx8.cell u0
    replace u1 := hx8.cell u1
    replace ul := lt_of_cell u0
    replace vf := hx8.free v0 vf
    replace v0 := hx8.cell v0
    replace v1 := hx8.cell v1
    replace vl := lt_of_cell v0
    replace kk := kk.trans hx8
    clear hx8 HRM
    go_wp2_with fail
    refine (HRS.out _ kk).mono ?_
    rintro e9 w9 ⟨rfl, hx9⟩
    replace uf := hx9.free u0 uf
    replace u0 := hx9.cell u0
    replace u1 := hx9.cell u1
    replace ul := lt_of_cell u0
    replace vf := hx9.free v0 vf
    replace v0 := hx9.cell v0
    replace v1 := hx9.cell v1
    replace vl := lt_of_cell v0
    replace kk := kk.trans hx9
    clear hx9 HRS
    go_wp2_with fail
    refine (HM.out _ kk).mono ?_
    rintro e10 w10 ⟨rfl, hx10⟩
    replace uf := hx10.free u0 uf
    replace u0 := hx10.cell u0
    replace u1 := hx10.cell u1
    replace ul := lt_of_cell u0
    replace vf := hx10.free v0 vf
    replace v0 := hx10.cell v0
    replace v1 := hx10.cell v1
    replace vl := lt_of_cell v0
    replace kk := kk.trans hx10
    clear hx10 HM
    go_wp2_with fail
    refine (HS.out _ kk).mono ?_
    rintro e11 w11 ⟨rfl, hx11⟩
    go_wp2
    go_ret
    exact ⟨rfl, kk.trans hx11⟩
set_option maxRecDepth 100000 in
theorem VoteTells_lifted (os : Os) (started : os.Started) (H : Type) (enc : TypeId × Value → H) :
    ReturnsInHanded {} Try.checked os 7 .any (Rows.voteTellsSpec.pre6 enc Try.prog Try.f7 Rows.voteTellsRow.domain false) (Rows.voteTellsSpec.post enc Try.prog Try.f7 false true false false) := by
  refine returnsInHanded_of_change_sized (C := Try.checked) own started (by kernel_rfl) Try.func7
    (ChangeSpec.witness6 (enc := enc) (C := Try.checked) false ⟨#[], #[.agg #[.slice none 0 0, .int .u64 0], .agg #[.slice none 0 0, .int .u64 0], .int .i64 0, .agg (rootC zeroR).toArray, .int .u64 0, .slice none 0 0], []⟩ 8 (by kernel_rfl) (by kernel_rfl) (by kernel_rfl) (by kernel_rfl)) ?_
  intro W base args ds gs before hval0 hW _hcnd hsz0 _
  have hval : ∀ (j : Nat) t v, Try.f7.params[j]? = some t → args[j]? = some v → Value.okWide Try.prog W .any base t v := hval0
  have hsz : (DataW.weightsEach Try.prog (Try.f7.params.toList ++ Rows.voteTellsSpec.plain.varTypes Try.prog) (ds ++ gs)).all (· ≤ reachBytes) = true := hsz0
  have hW' := hW
  obtain ⟨p, q, hA0, hV, rfl, hfz, hnd⟩ := hW
  have hA : DataW.TrodAll enc Try.prog W 0 (fun _ => true) true Try.f7.params.toList args.toList ds p := hA0
  rw [Try.params7] at hA hval hsz
  obtain ⟨v0, vs0, d0, ds0, p0, q0, hargs, rfl, rfl, h0, r0⟩ := trodAll_cons hA
  obtain ⟨v1, vs1, d1, ds1, p1, q1, rfl, rfl, rfl, h1, r1⟩ := trodAll_cons r0
  obtain ⟨v2, vs2, d2, ds2, p2, q2, rfl, rfl, rfl, h2, r2⟩ := trodAll_cons r1
  obtain ⟨v3, vs3, d3, ds3, p3, q3, rfl, rfl, rfl, h3, r3⟩ := trodAll_cons r2
  obtain ⟨v4, vs4, d4, ds4, p4, q4, rfl, rfl, rfl, h4, r4⟩ := trodAll_cons r3
  obtain ⟨v5, vs5, d5, ds5, p5, q5, rfl, rfl, rfl, h5, r5⟩ := trodAll_cons r4
  obtain ⟨rfl, rfl, rfl⟩ := trodAll_nil r5
  obtain rfl : args = #[v0, v1, v2, v3, v4, v5] := by cases args; simp_all
  obtain ⟨rfl, rfl⟩ := trodVars_none hV
  have h0k := h0
  have h1k := h1
  have h2k := h2
  have h3k := h3
  have h4k := h4
  have h5k := h5
  have hlt0 : ∀ x ∈ p0, x.block < W.heap.size := fun x hx => by have := hW'.lt x (by simp [hx]); simpa using this
  have hlt1 : ∀ x ∈ p1, x.block < W.heap.size := fun x hx => by have := hW'.lt x (by simp [hx]); simpa using this
  have hlt2 : ∀ x ∈ p2, x.block < W.heap.size := fun x hx => by have := hW'.lt x (by simp [hx]); simpa using this
  have hlt3 : ∀ x ∈ p3, x.block < W.heap.size := fun x hx => by have := hW'.lt x (by simp [hx]); simpa using this
  have hlt4 : ∀ x ∈ p4, x.block < W.heap.size := fun x hx => by have := hW'.lt x (by simp [hx]); simpa using this
  have hlt5 : ∀ x ∈ p5, x.block < W.heap.size := fun x hx => by have := hW'.lt x (by simp [hx]); simpa using this
  obtain ⟨vA, vn, vc, v, vo, rfl, hv, hov⟩ := open_votes (hval 0 28 v0 rfl rfl) h0 hsz (j := 0) rfl rfl
  obtain ⟨uA, un, uc, u, uo, rfl, hu, hou⟩ := open_votes (hval 1 28 v1 rfl rfl) h1 hsz (j := 1) rfl rfl
  obtain ⟨val, rfl, hval1, hval2⟩ := open_I64 Try.underlying3 (hval 2 3 v2 rfl rfl) h2
  obtain ⟨r, rfl, hr⟩ := open_root (hval 3 32 v3 rfl rfl) h3
  obtain ⟨epoch, rfl, hepoch⟩ := open_U64 Try.underlying26 (hval 4 26 v4 rfl rfl) h4
  obtain ⟨keepA, keepn, keepc, keep, rfl, hkeep⟩ := open_roots (hval 5 22 v5 rfl rfl) h5 hsz (j := 5) rfl rfl
  clear hA0 hval0
  simp only [List.append_nil] at hW'
  refine (VoteTells_walk vA vn vc v vo hov hv uA un uc u uo hou hu val hval1 hval2 r hr epoch hepoch keepA keepn keepc keep hkeep (w := W)).mono fun e W' ⟨he, hg⟩ => ?_
  subst he
  exact ⟨_, rfl, post_law (pa := p0 ++ (p1 ++ (p2 ++ (p3 ++ (p4 ++ (p5 ++ [])))))) (pv := []) hW' (fun _ _ _ => (trodAll_cons_mk (shut_bool Try.underlying4 _) trodAll_mk0))
    (trodAll_cons_mk (Below.trod laidOut (by kernel_rfl) (of_decide_eq_true (by kernel_rfl)) h0k hg.out hlt0) (trodAll_cons_mk (Below.trod laidOut (by kernel_rfl) (of_decide_eq_true (by kernel_rfl)) h1k hg.out hlt1) (trodAll_cons_mk (Below.trod laidOut (by kernel_rfl) (of_decide_eq_true (by kernel_rfl)) h2k hg.out hlt2) (trodAll_cons_mk (Below.trod laidOut (by kernel_rfl) (of_decide_eq_true (by kernel_rfl)) h3k hg.out hlt3) (trodAll_cons_mk (Below.trod laidOut (by kernel_rfl) (of_decide_eq_true (by kernel_rfl)) h4k hg.out hlt4) (trodAll_cons_mk (Below.trod laidOut (by kernel_rfl) (of_decide_eq_true (by kernel_rfl)) h5k hg.out hlt5) trodAll_mk0)))))) rfl (by simp) hg⟩
theorem VoteTells_holds : Rows.VoteTellsSaid :=
  OpenClaim.holds_of_wide 7 Try.f7 rfl rfl rfl rfl rfl rfl rfl ⟨rfl, rfl, rfl, rfl, rfl⟩ rfl rfl rfl rfl rfl (by kernel_rfl) Try.func7 (by kernel_rfl)
    (of_decide_eq_true (by kernel_rfl)) (by unfold Func.isWrapper; first | (rw [if_pos (by decide +kernel)]; kernel_rfl) | (rw [if_neg (by decide +kernel)]; exact ⟨rfl, rfl⟩))
    (fun os started H enc _ => VoteTells_lifted os started H enc)
#print axioms VoteTells_holds
end Go.Proofs.Ytnpopepannimiaa
