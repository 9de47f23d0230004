/- BoxRoom: a box has never more than there is room for; one that may not be stays as it is, and gives nothing; for every box and note. -/
import Derived.Test.YtfngnajcmdaphaaBoxLaw
namespace Go.Proofs.Ytfngnajcmdaphaa
open Go.RowKit Go.WideShapes Go.ChangeShapes Go.Joins Go.Deep
set_option linter.unusedVariables false
set_option linter.unusedSimpArgs false









set_option maxHeartbeats 4000000 in
theorem BoxRoom_walk {w : World} (bA : Option Addr) (bn bc : Nat) (b : List Note) (bk : Int) (bg bd : Bool) (hb : TL w bA bn bc b) (k1 : -9223372036854775808 ≤ bk) (k2 : bk ≤ 9223372036854775807) (n : Note) (hn : n.Ok) :
    Calls Try.prog 8 #[.agg #[.int .i64 bk, .slice bA bn bc, .bool bg, .bool bd], .agg n.cells.toArray] w fun e' w' => e' = .returned (.bool true) ∧ Ext w w' := by
  have HAW := Lib.hid (fun W => awake_any W)
  by_cases h1 : 60 < bn
  · have g1 : (60 : Int) < bn := by omega
    go_enter Try.func8, Try.ntmps8
    go_wp2_with fail
    refine (HAW.out _).mono ?_
    rintro e w0 ⟨rfl, hx0⟩
    have k0 : Ext w w0 := Ext.trans ((by repeat (first | assumption | exact Ext.refl _ | refine Ext.alloc ?_ _ | refine Ext.drew ?_ | refine Ext.drewN ?_ _ | refine Ext.setCell ?_ (by first | (simp; done) | omega | (simp; omega)) _ | refine Ext.trans (by assumption) ?_))) hx0
    obtain ⟨u0, u1, u2, u3, uf⟩ := (hx0).box4 (B := w.heap.size) (a := .int .i64 bk) (b := .slice bA bn bc) (c := .bool bg) (d := .bool bd) (by simp (maxDischargeDepth := 7) [go_sem]) (by simp (maxDischargeDepth := 7) [go_sem]) (by simp (maxDischargeDepth := 7) [go_sem]) (by simp (maxDischargeDepth := 7) [go_sem]) (fun o => by simp (maxDischargeDepth := 7) [go_sem])
    have ul := lt_of_cell u0
    go_wp2
    go_ret
    exact ⟨rfl, k0⟩
  have g1 : ¬ (60 : Int) < bn := by omega
  have hn66 : n.cells.length = 66 := Note.len hn
  have hi66 : (Try.prog.info? 33).map (·.size) = some n.cells.length := by rw [hn66]; kernel_rfl
  have hlen := hb.len
  have HB := Lib.hid (fun W (k : Ext w W) => hb.ext k)
  have HM := Lib.hid (fun W (k : Ext w W) => bmay_any bA bn bc b bk bg bd W (hb.ext k))
  cases hm : Box.mayV bk b with
  | false =>
    rw [hm] at HM
    have HP := Lib.hid (fun W (k : Ext w W) => bpost_any bA bn bc b bk bg bd n W (hb.ext k) hn _ _ _ (Box.post_no (x := n) hm))
    have HT := Lib.hid (fun W (k : Ext w W) => btake_any bA bn bc b bk bg bd W (hb.ext k) _ _ _ Note.zero_ok (Box.take_no hm))
    have HC := Lib.hid (fun W (k : Ext w W) => bclose_any bA bn bc b bk bg bd W (hb.ext k) _ _ (Box.close_no hm))
    rw [hlen] at HP HT HC
    obtain ⟨x, ex⟩ : ∃ x, x = Note.zero := ⟨_, rfl⟩
    have hx66 : x.cells.length = 66 := by rw [ex]; exact Note.len Note.zero_ok
    rw [← ex] at HT
    clear ex hm hb
    have hj66 : (Try.prog.info? 33).map (·.size) = some x.cells.length := by rw [hx66]; kernel_rfl
    have hzn := zeroNote
    have hzs := zNote_size
    have hze := zNote_ne
    go_enter Try.func8, Try.ntmps8
    go_wp2_with fail
    refine (HAW.out _).mono ?_
    rintro e w0 ⟨rfl, hx0⟩
    have k0 : Ext w w0 := Ext.trans ((by repeat (first | assumption | exact Ext.refl _ | refine Ext.alloc ?_ _ | refine Ext.drew ?_ | refine Ext.drewN ?_ _ | refine Ext.setCell ?_ (by first | (simp; done) | omega | (simp; omega)) _ | refine Ext.trans (by assumption) ?_))) hx0
    have rN := rangeAt_ext (range_at (w := w.alloc (.cells #[.int .i64 bk, .slice bA bn bc, .bool bg, .bool bd] 24)) (B := w.heap.size + 1) n.cells 33 (by simp)) hx0
    obtain ⟨u0, u1, u2, u3, uf⟩ := (hx0).box4 (B := w.heap.size) (a := .int .i64 bk) (b := .slice bA bn bc) (c := .bool bg) (d := .bool bd) (by simp (maxDischargeDepth := 7) [go_sem]) (by simp (maxDischargeDepth := 7) [go_sem]) (by simp (maxDischargeDepth := 7) [go_sem]) (by simp (maxDischargeDepth := 7) [go_sem]) (fun o => by simp (maxDischargeDepth := 7) [go_sem])
    have ul := lt_of_cell u0
    go_wp2_with (refine wpList_load_mid rfl 33 _ rfl _ _ rfl n.cells _ (rangeAt_ext rN ((by repeat (first | assumption | exact Ext.refl _ | refine Ext.alloc ?_ _ | refine Ext.drew ?_ | refine Ext.drewN ?_ _ | refine Ext.setCell ?_ (by first | (simp; done) | omega | (simp; omega)) _ | refine Ext.trans (by assumption) ?_)))) Try.underlying33 rfl hi66 ?_)
    refine (HP.out _ k0).mono ?_
    rintro e w1 ⟨⟨A1, c1, rfl, h1⟩, hx1⟩
    have k1 : Ext w w1 := k0.trans hx1
    replace uf := (hx1).free u0 uf
    replace u0 := (hx1).cell u0
    replace u1 := (hx1).cell u1
    replace u2 := (hx1).cell u2
    replace u3 := (hx1).cell u3
    replace ul := lt_of_cell u0
    go_wp2_with fail
    refine (HT.out _ ((by repeat (first | assumption | exact Ext.refl _ | refine Ext.alloc ?_ _ | refine Ext.drew ?_ | refine Ext.drewN ?_ _ | refine Ext.setCell ?_ (by first | (simp; done) | omega | (simp; omega)) _ | refine Ext.trans (by assumption) ?_)))).mono ?_
    rintro e w2 ⟨⟨A2, c2, rfl, h2⟩, hx2⟩
    have k2 : Ext w1 w2 := Ext.trans ((by repeat (first | assumption | exact Ext.refl _ | refine Ext.alloc ?_ _ | refine Ext.drew ?_ | refine Ext.drewN ?_ _ | refine Ext.setCell ?_ (by first | (simp; done) | omega | (simp; omega)) _ | refine Ext.trans (by assumption) ?_))) hx2
    replace uf := (k2).free u0 uf
    replace u0 := (k2).cell u0
    replace u1 := (k2).cell u1
    replace u2 := (k2).cell u2
    replace u3 := (k2).cell u3
    replace ul := lt_of_cell u0
    obtain ⟨v0, v1, v2, v3, vf⟩ := (hx2).box4 (B := w1.heap.size) (a := .int .i64 bk) (b := .slice A1 bn c1) (c := .bool bg) (d := .bool bd) (by simp (maxDischargeDepth := 7) [go_sem]) (by simp (maxDischargeDepth := 7) [go_sem]) (by simp (maxDischargeDepth := 7) [go_sem]) (by simp (maxDischargeDepth := 7) [go_sem]) (fun o => by simp (maxDischargeDepth := 7) [go_sem])
    have vl := lt_of_cell v0
    go_wp2_with (refine wpList_store_mid rfl 33 _ _ rfl _ 0 x.cells.toArray rfl rfl (there_at (by simp) _ (by rw [List.size_toArray, hx66]; decide)) (by rw [List.size_toArray]; exact hj66) (all_oneCell_toArray (Note.one x)) ?_; rw [List.toList_toArray, setCells_at (by simp) (by rw [hx66]; rfl)])
    refine (HM.out _ (k1.trans (Ext.trans k2 ((by repeat (first | assumption | exact Ext.refl _ | refine Ext.alloc ?_ _ | refine Ext.drew ?_ | refine Ext.drewN ?_ _ | refine Ext.setCell ?_ (by first | (simp; done) | omega | (simp; omega)) _ | refine Ext.trans (by assumption) ?_)))))).mono ?_
    rintro e w3 ⟨rfl, hx3⟩
    have k3 : Ext w2 w3 := Ext.trans ((by repeat (first | assumption | exact Ext.refl _ | refine Ext.alloc ?_ _ | refine Ext.drew ?_ | refine Ext.drewN ?_ _ | refine Ext.setCell ?_ (by first | (simp; done) | omega | (simp; omega)) _ | refine Ext.trans (by assumption) ?_))) hx3
    replace uf := (k3).free u0 uf
    replace u0 := (k3).cell u0
    replace u1 := (k3).cell u1
    replace u2 := (k3).cell u2
    replace u3 := (k3).cell u3
    replace ul := lt_of_cell u0
    replace vf := ((Ext.trans ((by repeat (first | assumption | exact Ext.refl _ | refine Ext.alloc ?_ _ | refine Ext.drew ?_ | refine Ext.drewN ?_ _ | refine Ext.setCell ?_ (by first | (simp; done) | omega | (simp; omega)) _ | refine Ext.trans (by assumption) ?_))) k3)).free v0 vf
    replace v0 := ((Ext.trans ((by repeat (first | assumption | exact Ext.refl _ | refine Ext.alloc ?_ _ | refine Ext.drew ?_ | refine Ext.drewN ?_ _ | refine Ext.setCell ?_ (by first | (simp; done) | omega | (simp; omega)) _ | refine Ext.trans (by assumption) ?_))) k3)).cell v0
    replace v1 := ((Ext.trans ((by repeat (first | assumption | exact Ext.refl _ | refine Ext.alloc ?_ _ | refine Ext.drew ?_ | refine Ext.drewN ?_ _ | refine Ext.setCell ?_ (by first | (simp; done) | omega | (simp; omega)) _ | refine Ext.trans (by assumption) ?_))) k3)).cell v1
    replace v2 := ((Ext.trans ((by repeat (first | assumption | exact Ext.refl _ | refine Ext.alloc ?_ _ | refine Ext.drew ?_ | refine Ext.drewN ?_ _ | refine Ext.setCell ?_ (by first | (simp; done) | omega | (simp; omega)) _ | refine Ext.trans (by assumption) ?_))) k3)).cell v2
    replace v3 := ((Ext.trans ((by repeat (first | assumption | exact Ext.refl _ | refine Ext.alloc ?_ _ | refine Ext.drew ?_ | refine Ext.drewN ?_ _ | refine Ext.setCell ?_ (by first | (simp; done) | omega | (simp; omega)) _ | refine Ext.trans (by assumption) ?_))) k3)).cell v3
    replace vl := lt_of_cell v0
    obtain ⟨y0, y1, y2, y3, yf⟩ := (hx3).box4 (B := w2.heap.size) (a := .int .i64 bk) (b := .slice A2 bn c2) (c := .bool bg) (d := .bool bd) (by simp (maxDischargeDepth := 7) [go_sem]) (by simp (maxDischargeDepth := 7) [go_sem]) (by simp (maxDischargeDepth := 7) [go_sem]) (by simp (maxDischargeDepth := 7) [go_sem]) (fun o => by simp (maxDischargeDepth := 7) [go_sem])
    have yl := lt_of_cell y0
    have kk3 : Ext w w3 := k1.trans (k2.trans k3)
    go_wp2_with fail
    refine (HC.out _ kk3).mono ?_
    rintro e w4 ⟨⟨A4, c4, rfl, h4⟩, hx4⟩
    replace uf := (hx4).free u0 uf
    replace u0 := (hx4).cell u0
    replace u1 := (hx4).cell u1
    replace u2 := (hx4).cell u2
    replace u3 := (hx4).cell u3
    replace ul := lt_of_cell u0
    replace vf := (hx4).free v0 vf
    replace v0 := (hx4).cell v0
    replace v1 := (hx4).cell v1
    replace v2 := (hx4).cell v2
    replace v3 := (hx4).cell v3
    replace vl := lt_of_cell v0
    replace yf := (hx4).free y0 yf
    replace y0 := (hx4).cell y0
    replace y1 := (hx4).cell y1
    replace y2 := (hx4).cell y2
    replace y3 := (hx4).cell y3
    replace yl := lt_of_cell y0
    have kk4 : Ext w w4 := kk3.trans hx4
    have e1 : Ext w1 w4 := k2.trans (k3.trans hx4)
    have e2 : Ext w2 w4 := k3.trans hx4
    have HS1 := Lib.hid (fun W (k : Ext w4 W) => same_self A1 bn c1 bk b bg bd bA bn bc W (h1.ext (e1.trans k)) (HB.out _ (kk4.trans k)))
    have HS2 := Lib.hid (fun W (k : Ext w4 W) => same_self A2 bn c2 bk b bg bd bA bn bc W (h2.ext (e2.trans k)) (HB.out _ (kk4.trans k)))
    clear h1 h2 h4 HC HM HT HP
    go_wp2_with fail
    refine (HS1.out _ ((by repeat (first | assumption | exact Ext.refl _ | refine Ext.alloc ?_ _ | refine Ext.drew ?_ | refine Ext.drewN ?_ _ | refine Ext.setCell ?_ (by first | (simp; done) | omega | (simp; omega)) _ | refine Ext.trans (by assumption) ?_)))).mono ?_
    rintro e w5 ⟨rfl, hx5⟩
    have k5 : Ext w4 w5 := Ext.trans ((by repeat (first | assumption | exact Ext.refl _ | refine Ext.alloc ?_ _ | refine Ext.drew ?_ | refine Ext.drewN ?_ _ | refine Ext.setCell ?_ (by first | (simp; done) | omega | (simp; omega)) _ | refine Ext.trans (by assumption) ?_))) hx5
    replace uf := (k5).free u0 uf
    replace u0 := (k5).cell u0
    replace u1 := (k5).cell u1
    replace u2 := (k5).cell u2
    replace u3 := (k5).cell u3
    replace ul := lt_of_cell u0
    replace yf := (k5).free y0 yf
    replace y0 := (k5).cell y0
    replace y1 := (k5).cell y1
    replace y2 := (k5).cell y2
    replace y3 := (k5).cell y3
    replace yl := lt_of_cell y0
    go_wp2_with fail
    refine (HS2.out _ k5).mono ?_
    rintro e w6 ⟨rfl, hx6⟩
    go_wp2
    go_ret
    exact ⟨rfl, kk4.trans (k5.trans hx6)⟩
  | true =>
    rw [hm] at HM
    obtain ⟨⟨pb, PL, pg⟩, hp⟩ : ∃ p, Box.postD bk b bg bd n = p := ⟨_, rfl⟩
    obtain ⟨⟨tb, TS, x⟩, ht⟩ : ∃ p, Box.takeD bk b = p := ⟨_, rfl⟩
    have hPm : Box.mayV bk PL = true := by have := Box.postD_may (cap := bk) (l := b) (lag := bg) (cl := bd) (x := n); rw [hp, hm] at this; exact this
    have hTm : Box.mayV bk TS = true := by have := Box.takeD_may (cap := bk) (l := b); rw [ht, hm] at this; exact this
    have hp2 := hp
    rw [Box.post_yes hm] at hp2
    have hPl : PL.length ≤ bn + 1 := by have := Box.postW_len (cap := bk) (l := b) (lag := bg) (cl := bd) (x := n); rw [hp2, hlen] at this; exact this
    have hPg : bn ≤ PL.length := by have := Box.postW_ge (cap := bk) (l := b) (lag := bg) (cl := bd) (x := n); rw [hp2, hlen] at this; exact this
    have ht2 := ht
    rw [Box.take_yes hm] at ht2
    have hxo : x.Ok := by have := Box.takeW_ok (l := b) (x := Note.zero) hb.ok Note.zero_ok; rw [ht2] at this; exact this
    have htb : tb = decide (0 < bn) := by have := Box.takeW_is (l := b) (x := Note.zero); rw [ht2, hlen] at this; exact this
    subst htb
    have HP := Lib.hid (fun W (k : Ext w W) => bpost_any bA bn bc b bk bg bd n W (hb.ext k) hn _ _ _ hp)
    have HT := Lib.hid (fun W (k : Ext w W) => btake_any bA bn bc b bk bg bd W (hb.ext k) _ _ _ hxo ht)
    have HMP := Lib.hid (fun W A c (h : TL W A PL.length c PL) => bmay_any A PL.length c PL bk pg bd W h)
    have HMT := Lib.hid (fun W A c (h : TL W A TS.length c TS) => bmay_any A TS.length c TS bk bg bd W h)
    rw [hPm] at HMP
    rw [hTm] at HMT
    have hx66 : x.cells.length = 66 := Note.len hxo
    generalize PL.length = pn at *
    generalize TS.length = sn at *
    clear hm hb hp ht hp2 ht2 hPm hTm
    have hj66 : (Try.prog.info? 33).map (·.size) = some x.cells.length := by rw [hx66]; kernel_rfl
    have hbn : (bn : Int) ≤ 60 := by omega
    have hw1 : IntKind.i64.wrap ((bn : Int) + 1) = (bn : Int) + 1 := IntWalk.i64_in _ ⟨by omega, by omega⟩
    have g2 : (pn : Int) ≤ (bn : Int) + 1 := by omega
    have g3 : (bn : Int) ≤ (pn : Int) := by omega
    have hzn := zeroNote
    have hzs := zNote_size
    have hze := zNote_ne
    go_enter Try.func8, Try.ntmps8
    go_wp2_with fail
    refine (HAW.out _).mono ?_
    rintro e w0 ⟨rfl, hx0⟩
    have k0 : Ext w w0 := Ext.trans ((by repeat (first | assumption | exact Ext.refl _ | refine Ext.alloc ?_ _ | refine Ext.drew ?_ | refine Ext.drewN ?_ _ | refine Ext.setCell ?_ (by first | (simp; done) | omega | (simp; omega)) _ | refine Ext.trans (by assumption) ?_))) hx0
    have rN := rangeAt_ext (range_at (w := w.alloc (.cells #[.int .i64 bk, .slice bA bn bc, .bool bg, .bool bd] 24)) (B := w.heap.size + 1) n.cells 33 (by simp)) hx0
    obtain ⟨u0, u1, u2, u3, uf⟩ := (hx0).box4 (B := w.heap.size) (a := .int .i64 bk) (b := .slice bA bn bc) (c := .bool bg) (d := .bool bd) (by simp (maxDischargeDepth := 7) [go_sem]) (by simp (maxDischargeDepth := 7) [go_sem]) (by simp (maxDischargeDepth := 7) [go_sem]) (by simp (maxDischargeDepth := 7) [go_sem]) (fun o => by simp (maxDischargeDepth := 7) [go_sem])
    have ul := lt_of_cell u0
    go_wp2_with (refine wpList_load_mid rfl 33 _ rfl _ _ rfl n.cells _ (rangeAt_ext rN ((by repeat (first | assumption | exact Ext.refl _ | refine Ext.alloc ?_ _ | refine Ext.drew ?_ | refine Ext.drewN ?_ _ | refine Ext.setCell ?_ (by first | (simp; done) | omega | (simp; omega)) _ | refine Ext.trans (by assumption) ?_)))) Try.underlying33 rfl hi66 ?_)
    refine (HP.out _ k0).mono ?_
    rintro e w1 ⟨⟨A1, c1, rfl, h1⟩, hx1⟩
    have k1 : Ext w w1 := k0.trans hx1
    replace uf := (hx1).free u0 uf
    replace u0 := (hx1).cell u0
    replace u1 := (hx1).cell u1
    replace u2 := (hx1).cell u2
    replace u3 := (hx1).cell u3
    replace ul := lt_of_cell u0
    go_wp2_with fail
    refine (HT.out _ ((by repeat (first | assumption | exact Ext.refl _ | refine Ext.alloc ?_ _ | refine Ext.drew ?_ | refine Ext.drewN ?_ _ | refine Ext.setCell ?_ (by first | (simp; done) | omega | (simp; omega)) _ | refine Ext.trans (by assumption) ?_)))).mono ?_
    rintro e w2 ⟨⟨A2, c2, rfl, h2⟩, hx2⟩
    have k2 : Ext w1 w2 := Ext.trans ((by repeat (first | assumption | exact Ext.refl _ | refine Ext.alloc ?_ _ | refine Ext.drew ?_ | refine Ext.drewN ?_ _ | refine Ext.setCell ?_ (by first | (simp; done) | omega | (simp; omega)) _ | refine Ext.trans (by assumption) ?_))) hx2
    replace uf := (k2).free u0 uf
    replace u0 := (k2).cell u0
    replace u1 := (k2).cell u1
    replace u2 := (k2).cell u2
    replace u3 := (k2).cell u3
    replace ul := lt_of_cell u0
    obtain ⟨v0, v1, v2, v3, vf⟩ := (hx2).box4 (B := w1.heap.size) (a := .int .i64 bk) (b := .slice A1 pn c1) (c := .bool pg) (d := .bool bd) (by simp (maxDischargeDepth := 7) [go_sem]) (by simp (maxDischargeDepth := 7) [go_sem]) (by simp (maxDischargeDepth := 7) [go_sem]) (by simp (maxDischargeDepth := 7) [go_sem]) (fun o => by simp (maxDischargeDepth := 7) [go_sem])
    have vl := lt_of_cell v0
    go_wp2_with (refine wpList_store_mid rfl 33 _ _ rfl _ 0 x.cells.toArray rfl rfl (there_at (by simp) _ (by rw [List.size_toArray, hx66]; decide)) (by rw [List.size_toArray]; exact hj66) (all_oneCell_toArray (Note.one x)) ?_; rw [List.toList_toArray, setCells_at (by simp) (by rw [hx66]; rfl)])
    refine (HM.out _ (k1.trans (Ext.trans k2 ((by repeat (first | assumption | exact Ext.refl _ | refine Ext.alloc ?_ _ | refine Ext.drew ?_ | refine Ext.drewN ?_ _ | refine Ext.setCell ?_ (by first | (simp; done) | omega | (simp; omega)) _ | refine Ext.trans (by assumption) ?_)))))).mono ?_
    rintro e w3 ⟨rfl, hx3⟩
    have k3 : Ext w2 w3 := Ext.trans ((by repeat (first | assumption | exact Ext.refl _ | refine Ext.alloc ?_ _ | refine Ext.drew ?_ | refine Ext.drewN ?_ _ | refine Ext.setCell ?_ (by first | (simp; done) | omega | (simp; omega)) _ | refine Ext.trans (by assumption) ?_))) hx3
    replace uf := (k3).free u0 uf
    replace u0 := (k3).cell u0
    replace u1 := (k3).cell u1
    replace u2 := (k3).cell u2
    replace u3 := (k3).cell u3
    replace ul := lt_of_cell u0
    replace vf := ((Ext.trans ((by repeat (first | assumption | exact Ext.refl _ | refine Ext.alloc ?_ _ | refine Ext.drew ?_ | refine Ext.drewN ?_ _ | refine Ext.setCell ?_ (by first | (simp; done) | omega | (simp; omega)) _ | refine Ext.trans (by assumption) ?_))) k3)).free v0 vf
    replace v0 := ((Ext.trans ((by repeat (first | assumption | exact Ext.refl _ | refine Ext.alloc ?_ _ | refine Ext.drew ?_ | refine Ext.drewN ?_ _ | refine Ext.setCell ?_ (by first | (simp; done) | omega | (simp; omega)) _ | refine Ext.trans (by assumption) ?_))) k3)).cell v0
    replace v1 := ((Ext.trans ((by repeat (first | assumption | exact Ext.refl _ | refine Ext.alloc ?_ _ | refine Ext.drew ?_ | refine Ext.drewN ?_ _ | refine Ext.setCell ?_ (by first | (simp; done) | omega | (simp; omega)) _ | refine Ext.trans (by assumption) ?_))) k3)).cell v1
    replace v2 := ((Ext.trans ((by repeat (first | assumption | exact Ext.refl _ | refine Ext.alloc ?_ _ | refine Ext.drew ?_ | refine Ext.drewN ?_ _ | refine Ext.setCell ?_ (by first | (simp; done) | omega | (simp; omega)) _ | refine Ext.trans (by assumption) ?_))) k3)).cell v2
    replace v3 := ((Ext.trans ((by repeat (first | assumption | exact Ext.refl _ | refine Ext.alloc ?_ _ | refine Ext.drew ?_ | refine Ext.drewN ?_ _ | refine Ext.setCell ?_ (by first | (simp; done) | omega | (simp; omega)) _ | refine Ext.trans (by assumption) ?_))) k3)).cell v3
    replace vl := lt_of_cell v0
    obtain ⟨y0, y1, y2, y3, yf⟩ := (hx3).box4 (B := w2.heap.size) (a := .int .i64 bk) (b := .slice A2 sn c2) (c := .bool bg) (d := .bool bd) (by simp (maxDischargeDepth := 7) [go_sem]) (by simp (maxDischargeDepth := 7) [go_sem]) (by simp (maxDischargeDepth := 7) [go_sem]) (by simp (maxDischargeDepth := 7) [go_sem]) (fun o => by simp (maxDischargeDepth := 7) [go_sem])
    have yl := lt_of_cell y0
    have kk3 : Ext w w3 := k1.trans (k2.trans k3)
    go_wp2_with fail
    refine (HMP.out _ _ _ (h1.ext (k2.trans k3))).mono ?_
    rintro e w4 ⟨rfl, hx4⟩
    replace uf := (hx4).free u0 uf
    replace u0 := (hx4).cell u0
    replace u1 := (hx4).cell u1
    replace u2 := (hx4).cell u2
    replace u3 := (hx4).cell u3
    replace ul := lt_of_cell u0
    replace vf := (hx4).free v0 vf
    replace v0 := (hx4).cell v0
    replace v1 := (hx4).cell v1
    replace v2 := (hx4).cell v2
    replace v3 := (hx4).cell v3
    replace vl := lt_of_cell v0
    replace yf := (hx4).free y0 yf
    replace y0 := (hx4).cell y0
    replace y1 := (hx4).cell y1
    replace y2 := (hx4).cell y2
    replace y3 := (hx4).cell y3
    replace yl := lt_of_cell y0
    go_wp2_with fail
    refine (HMT.out _ _ _ (h2.ext (k3.trans hx4))).mono ?_
    rintro e w5 ⟨rfl, hx5⟩
    go_wp2
    go_ret
    exact ⟨rfl, kk3.trans (hx4.trans hx5)⟩
set_option maxRecDepth 100000 in
theorem BoxRoom_lifted (os : Os) (started : os.Started) (H : Type) (enc : TypeId × Value → H) :
    ReturnsInHanded {} Try.checked os 8 .any (Rows.boxRoomSpec.pre6 enc Try.prog Try.f8 Rows.boxRoomRow.domain false) (Rows.boxRoomSpec.post enc Try.prog Try.f8 false true false false) := by
  refine returnsInHanded_of_change_sized (C := Try.checked) own started (by kernel_rfl) Try.func8
    (ChangeSpec.witness6 (enc := enc) (C := Try.checked) false ⟨#[], #[.agg #[.int .i64 0, .slice none 0 0, .bool false, .bool false], .agg (Note.cells Note.zero).toArray], []⟩ 8 (by kernel_rfl) (by kernel_rfl) (by kernel_rfl) (by kernel_rfl)) ?_
  intro W base args ds gs before hval0 hW _hcnd hsz0 _
  have hval : ∀ (j : Nat) t v, Try.f8.params[j]? = some t → args[j]? = some v → Value.okWide Try.prog W .any base t v := hval0
  have hsz : (DataW.weightsEach Try.prog (Try.f8.params.toList ++ Rows.boxRoomSpec.plain.varTypes Try.prog) (ds ++ gs)).all (· ≤ reachBytes) = true := hsz0
  have hW' := hW
  obtain ⟨p, q, hA0, hV, rfl, hfz, hnd⟩ := hW
  have hA : DataW.TrodAll enc Try.prog W 0 (fun _ => true) true Try.f8.params.toList args.toList ds p := hA0
  rw [Try.params8] at hA hval hsz
  obtain ⟨v0, vs0, d0, ds0, p0, q0, hargs, rfl, rfl, h0, r0⟩ := trodAll_cons hA
  obtain ⟨v1, vs1, d1, ds1, p1, q1, rfl, rfl, rfl, h1, r1⟩ := trodAll_cons r0
  obtain ⟨rfl, rfl, rfl⟩ := trodAll_nil r1
  obtain rfl : args = #[v0, v1] := by cases args; simp_all
  obtain ⟨rfl, rfl⟩ := trodVars_none hV
  have h0k := h0
  have h1k := h1
  have hlt0 : ∀ x ∈ p0, x.block < W.heap.size := fun x hx => by have := hW'.lt x (by simp [hx]); simpa using this
  have hlt1 : ∀ x ∈ p1, x.block < W.heap.size := fun x hx => by have := hW'.lt x (by simp [hx]); simpa using this
  obtain ⟨bA, bn, bc, b, bk, bg, bd, rfl, hb, hkb1, hkb2⟩ := open_box (hval 0 24 v0 rfl rfl) h0 hsz (j := 0) rfl rfl
  obtain ⟨n, rfl, hn⟩ := open_note (hval 1 33 v1 rfl rfl) h1
  clear hA0 hval0
  simp only [List.append_nil] at hW'
  refine (BoxRoom_walk bA bn bc b bk bg bd hb hkb1 hkb2 n hn (w := W)).mono fun e W' ⟨he, hg⟩ => ?_
  subst he
  exact ⟨_, rfl, post_law (pa := p0 ++ (p1 ++ [])) (pv := []) hW' (fun _ _ _ => (trodAll_cons_mk (shut_bool Try.underlying4 _) trodAll_mk0))
    (trodAll_cons_mk (Below.trod laidOut (by kernel_rfl) (of_decide_eq_true (by kernel_rfl)) h0k hg.out hlt0) (trodAll_cons_mk (Below.trod laidOut (by kernel_rfl) (of_decide_eq_true (by kernel_rfl)) h1k hg.out hlt1) trodAll_mk0)) rfl (by simp) hg⟩
theorem BoxRoom_holds : Rows.BoxRoomSaid :=
  OpenClaim.holds_of_wide 8 Try.f8 rfl rfl rfl rfl rfl rfl rfl ⟨rfl, rfl, rfl, rfl, rfl⟩ rfl rfl rfl rfl rfl (by kernel_rfl) Try.func8 (by kernel_rfl)
    (of_decide_eq_true (by kernel_rfl)) (by unfold Func.isWrapper; first | (rw [if_pos (by decide +kernel)]; kernel_rfl) | (rw [if_neg (by decide +kernel)]; exact ⟨rfl, rfl⟩))
    (fun os started H enc _ => BoxRoom_lifted os started H enc)
#print axioms BoxRoom_holds
end Go.Proofs.Ytfngnajcmdaphaa
