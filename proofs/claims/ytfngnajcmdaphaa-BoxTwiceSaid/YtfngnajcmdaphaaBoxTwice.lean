/- BoxTwice: a note that is posted twice is there once; one of a lower version behind it changes nothing; for every box, note and number. -/
import Derived.Test.YtfngnajcmdaphaaBoxHold
namespace Go.Proofs.Ytfngnajcmdaphaa
open Go.RowKit Go.WideShapes Go.ChangeShapes Go.Joins Go.Deep
set_option linter.unusedVariables false
set_option linter.unusedSimpArgs false









namespace Box
theorem post_end {cap : Int} {l : List Note} {lag cl : Bool} {x y : Note} (h : mayV cap (l ++ [x]) = true) (hy : y.ver ≤ x.ver) : postD cap (l ++ [x]) lag cl y = (false, l ++ [x], lag) := by
  rw [post_yes h]
  unfold postW
  rw [if_pos (.inr ⟨by simp, by rw [List.length_append, show l.length + [x].length - 1 = l.length from by simp, nt_app_end]; exact hy⟩)]
theorem post_twice {cap : Int} {l : List Note} {lag cl : Bool} {x : Note} (h : mayV cap l = true) {p : Bool} {PL : List Note} {pg : Bool} (hp : postD cap l lag cl x = (p, PL, pg)) : postD cap PL pg cl x = (false, PL, pg) := by
  have hm := postD_may (cap := cap) (l := l) (lag := lag) (cl := cl) (x := x)
  rw [hp, h] at hm
  rw [post_yes h] at hp
  unfold postW at hp
  split at hp
  · rename_i hc
    obtain ⟨rfl, rfl, rfl⟩ : false = p ∧ l = PL ∧ lag = pg := by simpa using hp
    rw [post_yes h]; unfold postW; rw [if_pos hc]
  · rename_i hc
    split at hp
    · rename_i he
      obtain ⟨rfl, rfl, rfl⟩ : false = p ∧ l = PL ∧ true = pg := by simpa using hp
      rw [post_yes h]; unfold postW; rw [if_neg hc, if_pos he]
    · obtain ⟨rfl, rfl, rfl⟩ : true = p ∧ l ++ [x] = PL ∧ lag = pg := by simpa using hp
      exact post_end hm (Int.le_refl _)
theorem post_low {cap : Int} {l : List Note} {lag cl : Bool} {x : Note} (h : mayV cap l = true) {p : Bool} {PL : List Note} {pg : Bool} (hp : postD cap l lag cl x = (p, PL, pg)) (hn : PL.length ≠ l.length) : pg = lag ∧ ∀ y : Note, y.ver ≤ x.ver → postD cap PL pg cl y = (false, PL, pg) := by
  have hm := postD_may (cap := cap) (l := l) (lag := lag) (cl := cl) (x := x)
  rw [hp, h] at hm
  rw [post_yes h] at hp
  unfold postW at hp
  split at hp
  · obtain ⟨rfl, rfl, rfl⟩ : false = p ∧ l = PL ∧ lag = pg := by simpa using hp
    exact absurd rfl hn
  · split at hp
    · obtain ⟨rfl, rfl, rfl⟩ : false = p ∧ l = PL ∧ true = pg := by simpa using hp
      exact absurd rfl hn
    · obtain ⟨rfl, rfl, rfl⟩ : true = p ∧ l ++ [x] = PL ∧ lag = pg := by simpa using hp
      exact ⟨rfl, fun y hy => post_end hm hy⟩
end Box
set_option maxHeartbeats 4000000 in
theorem BoxTwice_walk {w : World} (bA : Option Addr) (bn bc : Nat) (b : List Note) (bk : Int) (bg bd : Bool) (hb : TL w bA bn bc b) (k1 : -9223372036854775808 ≤ bk) (k2 : bk ≤ 9223372036854775807) (n : Note) (hn : n.Ok) (less : Int) (l1 : -9223372036854775808 ≤ less) (l2 : less ≤ 9223372036854775807) :
    Calls Try.prog 4 #[.agg #[.int .i64 bk, .slice bA bn bc, .bool bg, .bool bd], .agg n.cells.toArray, .int .i64 less] w fun e' w' => e' = .returned (.bool true) ∧ Ext w w' := by
  have HAW := Lib.hid (fun W => awake_any W)
  have HM := Lib.hid (fun W (k : Ext w W) => bmay_any bA bn bc b bk bg bd W (hb.ext k))
  have hn66 : n.cells.length = 66 := Note.len hn
  have hi66 : (Try.prog.info? 33).map (·.size) = some n.cells.length := by rw [hn66]; kernel_rfl
  cases hm : Box.mayV bk b with
  | false =>
    rw [hm] at HM
    clear hm hb
    go_enter Try.func4, Try.ntmps4
    go_wp2_with fail
    refine (HAW.out _).mono ?_
    rintro e w0 ⟨rfl, hx0⟩
    have k0 : Ext w w0 := Ext.trans ((by repeat (first | assumption | exact Ext.refl _ | refine Ext.alloc ?_ _ | refine Ext.drew ?_ | refine Ext.drewN ?_ _ | refine Ext.setCell ?_ (by first | (simp; done) | omega | (simp; omega)) _ | refine Ext.trans (by assumption) ?_))) hx0
    have rN := rangeAt_ext (range_at (w := w.alloc (.cells #[.int .i64 bk, .slice bA bn bc, .bool bg, .bool bd] 24)) (B := w.heap.size + 1) n.cells 33 (by simp)) hx0
    have d0 := rN 0 _ (Note.at0 n)
    simp only [Nat.add_zero] at d0
    obtain ⟨u0, u1, u2, u3, uf⟩ := (hx0).box4 (B := w.heap.size) (a := .int .i64 bk) (b := .slice bA bn bc) (c := .bool bg) (d := .bool bd) (by simp (maxDischargeDepth := 7) [go_sem]) (by simp (maxDischargeDepth := 7) [go_sem]) (by simp (maxDischargeDepth := 7) [go_sem]) (by simp (maxDischargeDepth := 7) [go_sem]) (fun o => by simp (maxDischargeDepth := 7) [go_sem])
    have ul := lt_of_cell u0
    go_wp2_with fail
    refine (HM.out _ k0).mono ?_
    rintro e w1 ⟨rfl, hx1⟩
    have kk1 := k0.trans hx1
    replace d0 := hx1.cell d0
    replace rN := rangeAt_ext rN hx1
    replace uf := (hx1).free u0 uf
    replace u0 := (hx1).cell u0
    replace u1 := (hx1).cell u1
    replace u2 := (hx1).cell u2
    replace u3 := (hx1).cell u3
    replace ul := lt_of_cell u0
    go_wp2
    go_ret
    exact ⟨rfl, kk1⟩
  | true =>
    rw [hm] at HM
    by_cases hls : n.ver < less
    · clear hm hb
      go_enter Try.func4, Try.ntmps4
      go_wp2_with fail
      refine (HAW.out _).mono ?_
      rintro e w0 ⟨rfl, hx0⟩
      have k0 : Ext w w0 := Ext.trans ((by repeat (first | assumption | exact Ext.refl _ | refine Ext.alloc ?_ _ | refine Ext.drew ?_ | refine Ext.drewN ?_ _ | refine Ext.setCell ?_ (by first | (simp; done) | omega | (simp; omega)) _ | refine Ext.trans (by assumption) ?_))) hx0
      have rN := rangeAt_ext (range_at (w := w.alloc (.cells #[.int .i64 bk, .slice bA bn bc, .bool bg, .bool bd] 24)) (B := w.heap.size + 1) n.cells 33 (by simp)) hx0
      have d0 := rN 0 _ (Note.at0 n)
      simp only [Nat.add_zero] at d0
      obtain ⟨u0, u1, u2, u3, uf⟩ := (hx0).box4 (B := w.heap.size) (a := .int .i64 bk) (b := .slice bA bn bc) (c := .bool bg) (d := .bool bd) (by simp (maxDischargeDepth := 7) [go_sem]) (by simp (maxDischargeDepth := 7) [go_sem]) (by simp (maxDischargeDepth := 7) [go_sem]) (by simp (maxDischargeDepth := 7) [go_sem]) (fun o => by simp (maxDischargeDepth := 7) [go_sem])
      have ul := lt_of_cell u0
      go_wp2_with fail
      refine (HM.out _ k0).mono ?_
      rintro e w1 ⟨rfl, hx1⟩
      have kk1 := k0.trans hx1
      replace d0 := hx1.cell d0
      replace rN := rangeAt_ext rN hx1
      replace uf := (hx1).free u0 uf
      replace u0 := (hx1).cell u0
      replace u1 := (hx1).cell u1
      replace u2 := (hx1).cell u2
      replace u3 := (hx1).cell u3
      replace ul := lt_of_cell u0
      go_wp2
      go_ret
      exact ⟨rfl, kk1⟩
    have hlen := hb.len
    obtain ⟨⟨p, PL, pg⟩, hp⟩ : ∃ p, Box.postD bk b bg bd n = p := ⟨_, rfl⟩
    have HP := Lib.hid (fun W (k : Ext w W) => bpost_any bA bn bc b bk bg bd n W (hb.ext k) hn _ _ _ hp)
    have HP2 := Lib.hid (fun W A c (h : TL W A PL.length c PL) => bpost_any A PL.length c PL bk pg bd n W h hn _ _ _ (Box.post_twice hm hp))
    have hu33 := Try.underlying33
    have hzn := zeroNote
    have hzs := zNote_size
    have hze := zNote_ne
    by_cases heq : PL.length = b.length
    · generalize hpn : PL.length = pn at *
      have ge : ((pn : Int) == bn) = true := by rw [hlen] at heq; simp [heq]
      clear hm hb hp hlen heq
      go_enter Try.func4, Try.ntmps4
      go_wp2_with fail
      refine (HAW.out _).mono ?_
      rintro e w0 ⟨rfl, hx0⟩
      have k0 : Ext w w0 := Ext.trans ((by repeat (first | assumption | exact Ext.refl _ | refine Ext.alloc ?_ _ | refine Ext.drew ?_ | refine Ext.drewN ?_ _ | refine Ext.setCell ?_ (by first | (simp; done) | omega | (simp; omega)) _ | refine Ext.trans (by assumption) ?_))) hx0
      have rN := rangeAt_ext (range_at (w := w.alloc (.cells #[.int .i64 bk, .slice bA bn bc, .bool bg, .bool bd] 24)) (B := w.heap.size + 1) n.cells 33 (by simp)) hx0
      have d0 := rN 0 _ (Note.at0 n)
      simp only [Nat.add_zero] at d0
      obtain ⟨u0, u1, u2, u3, uf⟩ := (hx0).box4 (B := w.heap.size) (a := .int .i64 bk) (b := .slice bA bn bc) (c := .bool bg) (d := .bool bd) (by simp (maxDischargeDepth := 7) [go_sem]) (by simp (maxDischargeDepth := 7) [go_sem]) (by simp (maxDischargeDepth := 7) [go_sem]) (by simp (maxDischargeDepth := 7) [go_sem]) (fun o => by simp (maxDischargeDepth := 7) [go_sem])
      have ul := lt_of_cell u0
      go_wp2_with fail
      refine (HM.out _ k0).mono ?_
      rintro e w1 ⟨rfl, hx1⟩
      have kk1 := k0.trans hx1
      replace d0 := hx1.cell d0
      replace rN := rangeAt_ext rN hx1
      replace uf := (hx1).free u0 uf
      replace u0 := (hx1).cell u0
      replace u1 := (hx1).cell u1
      replace u2 := (hx1).cell u2
      replace u3 := (hx1).cell u3
      replace ul := lt_of_cell u0
      go_wp2_with (refine wpList_load_mid rfl 33 _ rfl _ _ rfl n.cells _ (rangeAt_ext rN ((by repeat (first | assumption | exact Ext.refl _ | refine Ext.alloc ?_ _ | refine Ext.drew ?_ | refine Ext.drewN ?_ _ | refine Ext.setCell ?_ (by first | (simp; done) | omega | (simp; omega)) _ | refine Ext.trans (by assumption) ?_)))) Try.underlying33 rfl hi66 ?_)
      refine (HP.out _ kk1).mono ?_
      rintro e w2 ⟨⟨A2, c2, rfl, h2⟩, hx2⟩
      have kk2 := kk1.trans hx2
      replace rN := rangeAt_ext rN hx2
      replace uf := (hx2).free u0 uf
      replace u0 := (hx2).cell u0
      replace u1 := (hx2).cell u1
      replace u2 := (hx2).cell u2
      replace u3 := (hx2).cell u3
      replace ul := lt_of_cell u0
      have ke : Ext w2 (w2.alloc (.cells #[.int .i64 bk, .slice A2 pn c2, .bool pg, .bool bd] 24)) := (Ext.refl _).alloc _
      go_upto_region 6 with fail
      have k5 := kk2.trans ke
      replace rN := rangeAt_ext rN ke
      replace h2 := h2.ext ke
      have C : Box4 (w2.alloc (.cells #[.int .i64 bk, .slice A2 pn c2, .bool pg, .bool bd] 24)) w2.heap.size bk A2 pn c2 pg bd := ⟨by simp, by simp, by simp, by simp, fun o => frozen_new _ _ _ _⟩
      clear u0 u1 u2 u3 uf ul d0 ke kk1 kk2 hx0 hx1 hx2 k0 HM HP
      generalize hW5 : (w2.alloc (.cells #[.int .i64 bk, .slice A2 pn c2, .bool pg, .bool bd] 24)) = W5 at *
      clear hW5
      generalize w2.heap.size = X8 at *
      generalize w.heap.size + 1 = X4 at *
      refine wp_region_noPanic ?_
      refine wp_region_held_drew (S := fun w' => Ext W5 w') (by kernel_rfl) ((Ext.refl _).drew) (fun hHeld => ?_)
      change wpAnyH _ _ _ _ _ 6 (Array.replicate 6 false) _ _
      refine wpAnyH_take (i := 0) (v := .agg ([Value.int .i64 bk, Value.slice A2 pn c2, Value.bool pg, Value.bool bd]).toArray) rfl (by kernel_rfl) (by kernel_rfl) (by kernel_rfl) (fun _ _ _ h => h) (yieldsIf_load_mid (by rfl) 24 (.tmp 8) (by rfl) X8 0 (by go_simp) ([Value.int .i64 bk, Value.slice A2 pn c2, Value.bool pg, Value.bool bd]) _ (fun w hw => (rangeAt_ext C.box hw)) Try.underlying24 (by rfl) (by kernel_rfl)) hHeld ?_
      (try simp only [List.getElem_toArray, List.getElem_cons_zero, List.getElem_cons_succ, Act.put, List.setIfInBounds_toArray, List.set_cons_zero, List.set_cons_succ])
      refine wpAnyH_take (i := 1) (v := .agg (n.cells).toArray) rfl (by kernel_rfl) (by kernel_rfl) (by kernel_rfl) (fun _ _ _ h => h) (yieldsIf_load_mid (by rfl) 33 (.tmp 4) (by rfl) X4 0 (by go_simp) (n.cells) _ (fun w hw => (rangeAt_ext rN hw)) Try.underlying33 (by rfl) hi66) hHeld ?_
      (try simp only [List.getElem_toArray, List.getElem_cons_zero, List.getElem_cons_succ, Act.put, List.setIfInBounds_toArray, List.set_cons_zero, List.set_cons_succ])
      refine wpAnyH_take (i := 3) (v := .agg ([Value.int .i64 bk, Value.slice A2 pn c2, Value.bool pg, Value.bool bd]).toArray) rfl (by kernel_rfl) (by kernel_rfl) (by kernel_rfl) (fun _ _ _ h => h) (yieldsIf_load_mid (by rfl) 24 (.tmp 8) (by rfl) X8 0 (by go_simp) ([Value.int .i64 bk, Value.slice A2 pn c2, Value.bool pg, Value.bool bd]) _ (fun w hw => (rangeAt_ext C.box hw)) Try.underlying24 (by rfl) (by kernel_rfl)) hHeld ?_
      (try simp only [List.getElem_toArray, List.getElem_cons_zero, List.getElem_cons_succ, Act.put, List.setIfInBounds_toArray, List.set_cons_zero, List.set_cons_succ])
      refine wpAnyH_ready (rs := [2]) (by kernel_rfl) (by simp) ?_
      refine AllReadyH.cons rfl (fun K hK => ?_) ?_
      · go_simp
        refine (HP2.out _ _ _ (h2.ext ((by repeat (first | assumption | exact Ext.refl _ | refine Ext.alloc ?_ _ | refine Ext.drew ?_ | refine Ext.drewN ?_ _ | refine Ext.setCell ?_ (by first | (simp; done) | omega | (simp; omega)) _ | refine Ext.trans (by assumption) ?_))))).mono ?_
        rintro e wb ⟨⟨A5, c5, rfl, h5⟩, hxb⟩
        have kb : Ext W5 wb := Ext.trans ((by repeat (first | assumption | exact Ext.refl _ | refine Ext.alloc ?_ _ | refine Ext.drew ?_ | refine Ext.drewN ?_ _ | refine Ext.setCell ?_ (by first | (simp; done) | omega | (simp; omega)) _ | refine Ext.trans (by assumption) ?_))) hxb
        refine hK.out _ _ ((by repeat (first | assumption | exact Ext.refl _ | refine Ext.alloc ?_ _ | refine Ext.drew ?_ | refine Ext.drewN ?_ _ | refine Ext.setCell ?_ (by first | (simp; done) | omega | (simp; omega)) _ | refine Ext.trans (by assumption) ?_))) (fun hHeld => ?_)
        clear hK K
        (try simp only [List.getElem_toArray, List.getElem_cons_zero, List.getElem_cons_succ, Act.put, List.setIfInBounds_toArray, List.set_cons_zero, List.set_cons_succ])
        refine wpAnyH_ready (rs := [4]) (by kernel_rfl) (by simp) ?_
        refine AllReadyH.cons rfl (fun K hK => ?_) ?_
        · go_simp
          refine (same_self A5 pn c5 bk PL pg bd A2 pn c2 _ (h5.ext ((by repeat (first | assumption | exact Ext.refl _ | refine Ext.alloc ?_ _ | refine Ext.drew ?_ | refine Ext.drewN ?_ _ | refine Ext.setCell ?_ (by first | (simp; done) | omega | (simp; omega)) _ | refine Ext.trans (by assumption) ?_)))) (h2.ext ((by repeat (first | assumption | exact Ext.refl _ | refine Ext.alloc ?_ _ | refine Ext.drew ?_ | refine Ext.drewN ?_ _ | refine Ext.setCell ?_ (by first | (simp; done) | omega | (simp; omega)) _ | refine Ext.trans (by assumption) ?_))))).mono ?_
          rintro e wc ⟨rfl, hxc⟩
          have kc : Ext W5 wc := Ext.trans ((by repeat (first | assumption | exact Ext.refl _ | refine Ext.alloc ?_ _ | refine Ext.drew ?_ | refine Ext.drewN ?_ _ | refine Ext.setCell ?_ (by first | (simp; done) | omega | (simp; omega)) _ | refine Ext.trans (by assumption) ?_))) hxc
          refine hK.out _ _ ((by repeat (first | assumption | exact Ext.refl _ | refine Ext.alloc ?_ _ | refine Ext.drew ?_ | refine Ext.drewN ?_ _ | refine Ext.setCell ?_ (by first | (simp; done) | omega | (simp; omega)) _ | refine Ext.trans (by assumption) ?_))) (fun hHeld => ?_)
          clear hK K
          (try simp only [List.getElem_toArray, List.getElem_cons_zero, List.getElem_cons_succ, Act.put, List.setIfInBounds_toArray, List.set_cons_zero, List.set_cons_succ])
          refine wpAnyH_take (i := 5) (v := Value.bool true) rfl (by kernel_rfl) (by kernel_rfl) (by kernel_rfl) (fun _ _ _ h => h) (Or.inl ⟨by rfl, fun _ hSw => by first | (go_simp; done) | (go_simp; with_reducible rfl)⟩) hHeld ?_
          (try simp only [List.getElem_toArray, List.getElem_cons_zero, List.getElem_cons_succ, Act.put, List.setIfInBounds_toArray, List.set_cons_zero, List.set_cons_succ])
          refine wpAnyH_done (by kernel_rfl) ?_ _
          refine NoPanic.normal ?_
          go_wp2
          go_ret
          exact ⟨rfl, k5.trans kc⟩
        · exact AllReadyH.nil
      · exact AllReadyH.nil
    · obtain ⟨hpg, hlow⟩ := Box.post_low hm hp heq
      replace hpg := hpg.symm
      subst hpg
      have hwl := wf_i64 l1 l2
      obtain ⟨x, ex⟩ : ∃ x : Note, x = { n with ver := less } := ⟨_, rfl⟩
      have hxo : x.Ok := by rw [ex]; exact ⟨hwl, hn.2.1, hn.2.2.1, hn.2.2.2⟩
      have hx66 : x.cells.length = 66 := Note.len hxo
      have hj66 : (Try.prog.info? 33).map (·.size) = some x.cells.length := by rw [hx66]; kernel_rfl
      have hset : n.cells.set 0 (.int .i64 less) = x.cells := by rw [ex]; rfl
      have HP3 := Lib.hid (fun W A c (h : TL W A PL.length c PL) => bpost_any A PL.length c PL bk bg bd x W h hxo _ _ _ (hlow x (by rw [ex]; show less ≤ n.ver; omega)))
      generalize hpn : PL.length = pn at *
      have ge : ((pn : Int) == bn) = false := by rw [hlen] at heq; simp; omega
      clear hm hb hp hlen heq hlow ex
      go_enter Try.func4, Try.ntmps4
      go_wp2_with fail
      refine (HAW.out _).mono ?_
      rintro e w0 ⟨rfl, hx0⟩
      have k0 : Ext w w0 := Ext.trans ((by repeat (first | assumption | exact Ext.refl _ | refine Ext.alloc ?_ _ | refine Ext.drew ?_ | refine Ext.drewN ?_ _ | refine Ext.setCell ?_ (by first | (simp; done) | omega | (simp; omega)) _ | refine Ext.trans (by assumption) ?_))) hx0
      have rN := rangeAt_ext (range_at (w := w.alloc (.cells #[.int .i64 bk, .slice bA bn bc, .bool bg, .bool bd] 24)) (B := w.heap.size + 1) n.cells 33 (by simp)) hx0
      have d0 := rN 0 _ (Note.at0 n)
      simp only [Nat.add_zero] at d0
      obtain ⟨u0, u1, u2, u3, uf⟩ := (hx0).box4 (B := w.heap.size) (a := .int .i64 bk) (b := .slice bA bn bc) (c := .bool bg) (d := .bool bd) (by simp (maxDischargeDepth := 7) [go_sem]) (by simp (maxDischargeDepth := 7) [go_sem]) (by simp (maxDischargeDepth := 7) [go_sem]) (by simp (maxDischargeDepth := 7) [go_sem]) (fun o => by simp (maxDischargeDepth := 7) [go_sem])
      have ul := lt_of_cell u0
      go_wp2_with fail
      refine (HM.out _ k0).mono ?_
      rintro e w1 ⟨rfl, hx1⟩
      have kk1 := k0.trans hx1
      replace d0 := hx1.cell d0
      replace rN := rangeAt_ext rN hx1
      replace uf := (hx1).free u0 uf
      replace u0 := (hx1).cell u0
      replace u1 := (hx1).cell u1
      replace u2 := (hx1).cell u2
      replace u3 := (hx1).cell u3
      replace ul := lt_of_cell u0
      go_wp2_with (refine wpList_load_mid rfl 33 _ rfl _ _ rfl n.cells _ (rangeAt_ext rN ((by repeat (first | assumption | exact Ext.refl _ | refine Ext.alloc ?_ _ | refine Ext.drew ?_ | refine Ext.drewN ?_ _ | refine Ext.setCell ?_ (by first | (simp; done) | omega | (simp; omega)) _ | refine Ext.trans (by assumption) ?_)))) Try.underlying33 rfl hi66 ?_)
      refine (HP.out _ kk1).mono ?_
      rintro e w2 ⟨⟨A2, c2, rfl, h2⟩, hx2⟩
      have kk2 := kk1.trans hx2
      replace rN := rangeAt_ext rN hx2
      replace uf := (hx2).free u0 uf
      replace u0 := (hx2).cell u0
      replace u1 := (hx2).cell u1
      replace u2 := (hx2).cell u2
      replace u3 := (hx2).cell u3
      replace ul := lt_of_cell u0
      have ke : Ext w2 (w2.alloc (.cells #[.int .i64 bk, .slice A2 pn c2, .bool bg, .bool bd] 24)) := (Ext.refl _).alloc _
      have kN : Ext w w2 := kk2
      go_upto_region 9 with (first | (refine wpList_load_mid rfl 33 _ rfl _ _ rfl n.cells _ (rangeAt_ext rN ((by repeat (first | assumption | exact Ext.refl _ | refine Ext.alloc ?_ _ | refine Ext.drew ?_ | refine Ext.drewN ?_ _ | refine Ext.setCell ?_ (by first | (simp; done) | omega | (simp; omega)) _ | refine Ext.trans (by assumption) ?_)))) Try.underlying33 rfl hi66 ?_) | (refine wpList_store_mid rfl 33 _ _ rfl _ 0 n.cells.toArray rfl rfl (there_at (by simp) _ (by rw [List.size_toArray, hn66]; decide)) (by rw [List.size_toArray]; exact hi66) (all_oneCell_toArray (Note.one n)) ?_; rw [List.toList_toArray, setCells_at (by simp) (by rw [hn66]; rfl)]))
      have ke2 : Ext w2 ((w2.alloc (.cells #[.int .i64 bk, .slice A2 pn c2, .bool bg, .bool bd] 24)).alloc (.cells x.cells.toArray 33)) := ke.alloc _
      have k5 := kk2.trans ke2
      replace rN := rangeAt_ext rN ke2
      replace h2 := h2.ext ke2
      have rX := range_at (w := w2.alloc (.cells #[.int .i64 bk, .slice A2 pn c2, .bool bg, .bool bd] 24)) (B := w2.heap.size + 1) x.cells 33 (by simp)
      have C : Box4 ((w2.alloc (.cells #[.int .i64 bk, .slice A2 pn c2, .bool bg, .bool bd] 24)).alloc (.cells x.cells.toArray 33)) w2.heap.size bk A2 pn c2 bg bd := Box4.ext (wr := w2.alloc (.cells #[.int .i64 bk, .slice A2 pn c2, .bool bg, .bool bd] 24)) ⟨by simp, by simp, by simp, by simp, fun o => frozen_new _ _ _ _⟩ ((Ext.refl _).alloc _)
      have U := (Box4.mk u0 u1 u2 u3 uf).ext ke2
      clear u0 u1 u2 u3 uf ul d0 ke ke2 kN kk1 kk2 hx0 hx1 hx2 k0 HM HP
      generalize w2.heap.size + 1 = X9 at *
      generalize hW5 : ((w2.alloc (.cells #[.int .i64 bk, .slice A2 pn c2, .bool bg, .bool bd] 24)).alloc (.cells x.cells.toArray 33)) = W5 at *
      clear hW5
      generalize w2.heap.size = X8 at *
      generalize w.heap.size + 1 = X4 at *
      refine wp_region_noPanic ?_
      refine wp_region_held_drew (S := fun w' => Ext W5 w') (by kernel_rfl) ((Ext.refl _).drew) (fun hHeld => ?_)
      change wpAnyH _ _ _ _ _ 20 (Array.replicate 20 false) _ _
      refine wpAnyH_take (i := 0) (v := .agg ([Value.int .i64 bk, Value.slice A2 pn c2, Value.bool bg, Value.bool bd]).toArray) rfl (by kernel_rfl) (by kernel_rfl) (by kernel_rfl) (fun _ _ _ h => h) (yieldsIf_load_mid (by rfl) 24 (.tmp 8) (by rfl) X8 0 (by go_simp) ([Value.int .i64 bk, Value.slice A2 pn c2, Value.bool bg, Value.bool bd]) _ (fun w hw => (rangeAt_ext C.box hw)) Try.underlying24 (by rfl) (by kernel_rfl)) hHeld ?_
      (try simp only [List.getElem_toArray, List.getElem_cons_zero, List.getElem_cons_succ, Act.put, List.setIfInBounds_toArray, List.set_cons_zero, List.set_cons_succ])
      refine wpAnyH_take (i := 1) (v := .agg (n.cells).toArray) rfl (by kernel_rfl) (by kernel_rfl) (by kernel_rfl) (fun _ _ _ h => h) (yieldsIf_load_mid (by rfl) 33 (.tmp 4) (by rfl) X4 0 (by go_simp) (n.cells) _ (fun w hw => (rangeAt_ext rN hw)) Try.underlying33 (by rfl) hi66) hHeld ?_
      (try simp only [List.getElem_toArray, List.getElem_cons_zero, List.getElem_cons_succ, Act.put, List.setIfInBounds_toArray, List.set_cons_zero, List.set_cons_succ])
      refine wpAnyH_take (i := 3) (v := .agg ([Value.int .i64 bk, Value.slice A2 pn c2, Value.bool bg, Value.bool bd]).toArray) rfl (by kernel_rfl) (by kernel_rfl) (by kernel_rfl) (fun _ _ _ h => h) (yieldsIf_load_mid (by rfl) 24 (.tmp 8) (by rfl) X8 0 (by go_simp) ([Value.int .i64 bk, Value.slice A2 pn c2, Value.bool bg, Value.bool bd]) _ (fun w hw => (rangeAt_ext C.box hw)) Try.underlying24 (by rfl) (by kernel_rfl)) hHeld ?_
      (try simp only [List.getElem_toArray, List.getElem_cons_zero, List.getElem_cons_succ, Act.put, List.setIfInBounds_toArray, List.set_cons_zero, List.set_cons_succ])
      refine wpAnyH_ready (rs := [2]) (by kernel_rfl) (by simp) ?_
      refine AllReadyH.cons rfl (fun K hK => ?_) ?_
      · go_simp
        refine (HP2.out _ _ _ (h2.ext ((by repeat (first | assumption | exact Ext.refl _ | refine Ext.alloc ?_ _ | refine Ext.drew ?_ | refine Ext.drewN ?_ _ | refine Ext.setCell ?_ (by first | (simp; done) | omega | (simp; omega)) _ | refine Ext.trans (by assumption) ?_))))).mono ?_
        rintro e wb ⟨⟨A5, c5, rfl, h5⟩, hxb⟩
        have kb : Ext W5 wb := Ext.trans ((by repeat (first | assumption | exact Ext.refl _ | refine Ext.alloc ?_ _ | refine Ext.drew ?_ | refine Ext.drewN ?_ _ | refine Ext.setCell ?_ (by first | (simp; done) | omega | (simp; omega)) _ | refine Ext.trans (by assumption) ?_))) hxb
        refine hK.out _ _ ((by repeat (first | assumption | exact Ext.refl _ | refine Ext.alloc ?_ _ | refine Ext.drew ?_ | refine Ext.drewN ?_ _ | refine Ext.setCell ?_ (by first | (simp; done) | omega | (simp; omega)) _ | refine Ext.trans (by assumption) ?_))) (fun hHeld => ?_)
        clear hK K
        (try simp only [List.getElem_toArray, List.getElem_cons_zero, List.getElem_cons_succ, Act.put, List.setIfInBounds_toArray, List.set_cons_zero, List.set_cons_succ])
        refine wpAnyH_ready (rs := [4]) (by kernel_rfl) (by simp) ?_
        refine AllReadyH.cons rfl (fun K hK => ?_) ?_
        · go_simp
          refine (same_self A5 pn c5 bk PL bg bd A2 pn c2 _ (h5.ext ((by repeat (first | assumption | exact Ext.refl _ | refine Ext.alloc ?_ _ | refine Ext.drew ?_ | refine Ext.drewN ?_ _ | refine Ext.setCell ?_ (by first | (simp; done) | omega | (simp; omega)) _ | refine Ext.trans (by assumption) ?_)))) (h2.ext ((by repeat (first | assumption | exact Ext.refl _ | refine Ext.alloc ?_ _ | refine Ext.drew ?_ | refine Ext.drewN ?_ _ | refine Ext.setCell ?_ (by first | (simp; done) | omega | (simp; omega)) _ | refine Ext.trans (by assumption) ?_))))).mono ?_
          rintro e wc ⟨rfl, hxc⟩
          have kc : Ext W5 wc := Ext.trans ((by repeat (first | assumption | exact Ext.refl _ | refine Ext.alloc ?_ _ | refine Ext.drew ?_ | refine Ext.drewN ?_ _ | refine Ext.setCell ?_ (by first | (simp; done) | omega | (simp; omega)) _ | refine Ext.trans (by assumption) ?_))) hxc
          refine hK.out _ _ ((by repeat (first | assumption | exact Ext.refl _ | refine Ext.alloc ?_ _ | refine Ext.drew ?_ | refine Ext.drewN ?_ _ | refine Ext.setCell ?_ (by first | (simp; done) | omega | (simp; omega)) _ | refine Ext.trans (by assumption) ?_))) (fun hHeld => ?_)
          clear hK K
          (try simp only [List.getElem_toArray, List.getElem_cons_zero, List.getElem_cons_succ, Act.put, List.setIfInBounds_toArray, List.set_cons_zero, List.set_cons_succ])
          refine wpAnyH_take (i := 5) (v := Value.bool true) rfl (by kernel_rfl) (by kernel_rfl) (by kernel_rfl) (fun _ _ _ h => h) (Or.inl ⟨by rfl, fun _ hSw => by first | (go_simp; done) | (go_simp; with_reducible rfl)⟩) hHeld ?_
          (try simp only [List.getElem_toArray, List.getElem_cons_zero, List.getElem_cons_succ, Act.put, List.setIfInBounds_toArray, List.set_cons_zero, List.set_cons_succ])
          refine wpAnyH_take (i := 6) (v := .agg ([Value.int .i64 bk, Value.slice A2 pn c2, Value.bool bg, Value.bool bd]).toArray) rfl (by kernel_rfl) (by kernel_rfl) (by kernel_rfl) (fun _ _ _ h => h) (yieldsIf_load_mid (by rfl) 24 (.tmp 8) (by rfl) X8 0 (by go_simp) ([Value.int .i64 bk, Value.slice A2 pn c2, Value.bool bg, Value.bool bd]) _ (fun w hw => (rangeAt_ext C.box hw)) Try.underlying24 (by rfl) (by kernel_rfl)) hHeld ?_
          (try simp only [List.getElem_toArray, List.getElem_cons_zero, List.getElem_cons_succ, Act.put, List.setIfInBounds_toArray, List.set_cons_zero, List.set_cons_succ])
          refine wpAnyH_take (i := 7) (v := .agg (x.cells).toArray) rfl (by kernel_rfl) (by kernel_rfl) (by kernel_rfl) (fun _ _ _ h => h) (yieldsIf_load_mid (by rfl) 33 (.tmp 9) (by rfl) X9 0 (by go_simp) (x.cells) _ (fun w hw => (rangeAt_ext rX hw)) Try.underlying33 (by rfl) hj66) hHeld ?_
          (try simp only [List.getElem_toArray, List.getElem_cons_zero, List.getElem_cons_succ, Act.put, List.setIfInBounds_toArray, List.set_cons_zero, List.set_cons_succ])
          refine wpAnyH_take (i := 9) (v := .agg ([Value.int .i64 bk, Value.slice A2 pn c2, Value.bool bg, Value.bool bd]).toArray) rfl (by kernel_rfl) (by kernel_rfl) (by kernel_rfl) (fun _ _ _ h => h) (yieldsIf_load_mid (by rfl) 24 (.tmp 8) (by rfl) X8 0 (by go_simp) ([Value.int .i64 bk, Value.slice A2 pn c2, Value.bool bg, Value.bool bd]) _ (fun w hw => (rangeAt_ext C.box hw)) Try.underlying24 (by rfl) (by kernel_rfl)) hHeld ?_
          (try simp only [List.getElem_toArray, List.getElem_cons_zero, List.getElem_cons_succ, Act.put, List.setIfInBounds_toArray, List.set_cons_zero, List.set_cons_succ])
          refine wpAnyH_ready (rs := [8]) (by kernel_rfl) (by simp) ?_
          refine AllReadyH.cons rfl (fun K hK => ?_) ?_
          · go_simp
            refine (HP3.out _ _ _ (h2.ext ((by repeat (first | assumption | exact Ext.refl _ | refine Ext.alloc ?_ _ | refine Ext.drew ?_ | refine Ext.drewN ?_ _ | refine Ext.setCell ?_ (by first | (simp; done) | omega | (simp; omega)) _ | refine Ext.trans (by assumption) ?_))))).mono ?_
            rintro e wd ⟨⟨A6, c6, rfl, h6⟩, hxd⟩
            have kd : Ext W5 wd := Ext.trans ((by repeat (first | assumption | exact Ext.refl _ | refine Ext.alloc ?_ _ | refine Ext.drew ?_ | refine Ext.drewN ?_ _ | refine Ext.setCell ?_ (by first | (simp; done) | omega | (simp; omega)) _ | refine Ext.trans (by assumption) ?_))) hxd
            refine hK.out _ _ ((by repeat (first | assumption | exact Ext.refl _ | refine Ext.alloc ?_ _ | refine Ext.drew ?_ | refine Ext.drewN ?_ _ | refine Ext.setCell ?_ (by first | (simp; done) | omega | (simp; omega)) _ | refine Ext.trans (by assumption) ?_))) (fun hHeld => ?_)
            clear hK K
            (try simp only [List.getElem_toArray, List.getElem_cons_zero, List.getElem_cons_succ, Act.put, List.setIfInBounds_toArray, List.set_cons_zero, List.set_cons_succ])
            refine wpAnyH_ready (rs := [10]) (by kernel_rfl) (by simp) ?_
            refine AllReadyH.cons rfl (fun K hK => ?_) ?_
            · go_simp
              refine (same_self A6 pn c6 bk PL bg bd A2 pn c2 _ (h6.ext ((by repeat (first | assumption | exact Ext.refl _ | refine Ext.alloc ?_ _ | refine Ext.drew ?_ | refine Ext.drewN ?_ _ | refine Ext.setCell ?_ (by first | (simp; done) | omega | (simp; omega)) _ | refine Ext.trans (by assumption) ?_)))) (h2.ext ((by repeat (first | assumption | exact Ext.refl _ | refine Ext.alloc ?_ _ | refine Ext.drew ?_ | refine Ext.drewN ?_ _ | refine Ext.setCell ?_ (by first | (simp; done) | omega | (simp; omega)) _ | refine Ext.trans (by assumption) ?_))))).mono ?_
              rintro e we ⟨rfl, hxe⟩
              have ke : Ext W5 we := Ext.trans ((by repeat (first | assumption | exact Ext.refl _ | refine Ext.alloc ?_ _ | refine Ext.drew ?_ | refine Ext.drewN ?_ _ | refine Ext.setCell ?_ (by first | (simp; done) | omega | (simp; omega)) _ | refine Ext.trans (by assumption) ?_))) hxe
              refine hK.out _ _ ((by repeat (first | assumption | exact Ext.refl _ | refine Ext.alloc ?_ _ | refine Ext.drew ?_ | refine Ext.drewN ?_ _ | refine Ext.setCell ?_ (by first | (simp; done) | omega | (simp; omega)) _ | refine Ext.trans (by assumption) ?_))) (fun hHeld => ?_)
              clear hK K
              (try simp only [List.getElem_toArray, List.getElem_cons_zero, List.getElem_cons_succ, Act.put, List.setIfInBounds_toArray, List.set_cons_zero, List.set_cons_succ])
              refine wpAnyH_take (i := 11) (v := Value.bool true) rfl (by kernel_rfl) (by kernel_rfl) (by kernel_rfl) (fun _ _ _ h => h) (Or.inl ⟨by rfl, fun _ hSw => by first | (go_simp; done) | (go_simp; with_reducible rfl)⟩) hHeld ?_
              (try simp only [List.getElem_toArray, List.getElem_cons_zero, List.getElem_cons_succ, Act.put, List.setIfInBounds_toArray, List.set_cons_zero, List.set_cons_succ])
              refine wpAnyH_take (i := 12) (v := Value.bool true) rfl (by kernel_rfl) (by kernel_rfl) (by kernel_rfl) (fun _ _ _ h => h) (Or.inl ⟨by rfl, fun _ hSw => by first | (go_simp; done) | (go_simp; with_reducible rfl)⟩) hHeld ?_
              (try simp only [List.getElem_toArray, List.getElem_cons_zero, List.getElem_cons_succ, Act.put, List.setIfInBounds_toArray, List.set_cons_zero, List.set_cons_succ])
              refine wpAnyH_take (i := 13) (v := Value.pointer (some ⟨X8, 2, none⟩)) rfl (by kernel_rfl) (by kernel_rfl) (by kernel_rfl) (fun _ _ _ h => h) (Or.inl ⟨by rfl, fun _ hSw => by first | (go_simp; done) | (go_simp; with_reducible rfl)⟩) hHeld ?_
              (try simp only [List.getElem_toArray, List.getElem_cons_zero, List.getElem_cons_succ, Act.put, List.setIfInBounds_toArray, List.set_cons_zero, List.set_cons_succ])
              refine wpAnyH_take (i := 14) (v := Value.bool bg) rfl (by kernel_rfl) (by kernel_rfl) (by kernel_rfl) (fun _ _ _ h => h) (Or.inl ⟨by rfl, fun _ hSw => by have hcc := Ext.cell hSw C.c2; first | (go_simp; done) | (go_simp; with_reducible rfl)⟩) hHeld ?_
              (try simp only [List.getElem_toArray, List.getElem_cons_zero, List.getElem_cons_succ, Act.put, List.setIfInBounds_toArray, List.set_cons_zero, List.set_cons_succ])
              refine wpAnyH_take (i := 15) (v := Value.pointer (some ⟨w.heap.size, 2, none⟩)) rfl (by kernel_rfl) (by kernel_rfl) (by kernel_rfl) (fun _ _ _ h => h) (Or.inl ⟨by rfl, fun _ hSw => by first | (go_simp; done) | (go_simp; with_reducible rfl)⟩) hHeld ?_
              (try simp only [List.getElem_toArray, List.getElem_cons_zero, List.getElem_cons_succ, Act.put, List.setIfInBounds_toArray, List.set_cons_zero, List.set_cons_succ])
              refine wpAnyH_take (i := 16) (v := Value.bool bg) rfl (by kernel_rfl) (by kernel_rfl) (by kernel_rfl) (fun _ _ _ h => h) (Or.inl ⟨by rfl, fun _ hSw => by have hcc := Ext.cell hSw U.c2; first | (go_simp; done) | (go_simp; with_reducible rfl)⟩) hHeld ?_
              (try simp only [List.getElem_toArray, List.getElem_cons_zero, List.getElem_cons_succ, Act.put, List.setIfInBounds_toArray, List.set_cons_zero, List.set_cons_succ])
              refine wpAnyH_take (i := 17) (v := Value.bool true) rfl (by kernel_rfl) (by kernel_rfl) (by kernel_rfl) (fun _ _ _ h => h) (Or.inl ⟨by rfl, fun _ hSw => by first | (go_simp; done) | (go_simp; with_reducible rfl)⟩) hHeld ?_
              (try simp only [List.getElem_toArray, List.getElem_cons_zero, List.getElem_cons_succ, Act.put, List.setIfInBounds_toArray, List.set_cons_zero, List.set_cons_succ])
              refine wpAnyH_take (i := 18) (v := Value.bool true) rfl (by kernel_rfl) (by kernel_rfl) (by kernel_rfl) (fun _ _ _ h => h) (Or.inl ⟨by rfl, fun _ hSw => by first | (go_simp; done) | (go_simp; with_reducible rfl)⟩) hHeld ?_
              (try simp only [List.getElem_toArray, List.getElem_cons_zero, List.getElem_cons_succ, Act.put, List.setIfInBounds_toArray, List.set_cons_zero, List.set_cons_succ])
              refine wpAnyH_take (i := 19) (v := Value.bool true) rfl (by kernel_rfl) (by kernel_rfl) (by kernel_rfl) (fun _ _ _ h => h) (Or.inl ⟨by rfl, fun _ hSw => by first | (go_simp; done) | (go_simp; with_reducible rfl)⟩) hHeld ?_
              (try simp only [List.getElem_toArray, List.getElem_cons_zero, List.getElem_cons_succ, Act.put, List.setIfInBounds_toArray, List.set_cons_zero, List.set_cons_succ])
              refine wpAnyH_done (by kernel_rfl) ?_ _
              refine NoPanic.normal ?_
              go_wp2
              go_ret
              exact ⟨rfl, k5.trans ke⟩
            · exact AllReadyH.nil
          · exact AllReadyH.nil
        · exact AllReadyH.nil
      · exact AllReadyH.nil
set_option maxRecDepth 100000 in
theorem BoxTwice_lifted (os : Os) (started : os.Started) (H : Type) (enc : TypeId × Value → H) :
    ReturnsInHanded {} Try.checked os 4 .any (Rows.boxTwiceSpec.pre6 enc Try.prog Try.f4 Rows.boxTwiceRow.domain false) (Rows.boxTwiceSpec.post enc Try.prog Try.f4 false true false false) := by
  refine returnsInHanded_of_change_sized (C := Try.checked) own started (by kernel_rfl) Try.func4
    (ChangeSpec.witness6 (enc := enc) (C := Try.checked) false ⟨#[], #[.agg #[.int .i64 0, .slice none 0 0, .bool false, .bool false], .agg (Note.cells Note.zero).toArray, .int .i64 0], []⟩ 8 (by kernel_rfl) (by kernel_rfl) (by kernel_rfl) (by kernel_rfl)) ?_
  intro W base args ds gs before hval0 hW _hcnd hsz0 _
  have hval : ∀ (j : Nat) t v, Try.f4.params[j]? = some t → args[j]? = some v → Value.okWide Try.prog W .any base t v := hval0
  have hsz : (DataW.weightsEach Try.prog (Try.f4.params.toList ++ Rows.boxTwiceSpec.plain.varTypes Try.prog) (ds ++ gs)).all (· ≤ reachBytes) = true := hsz0
  have hW' := hW
  obtain ⟨p, q, hA0, hV, rfl, hfz, hnd⟩ := hW
  have hA : DataW.TrodAll enc Try.prog W 0 (fun _ => true) true Try.f4.params.toList args.toList ds p := hA0
  rw [Try.params4] at hA hval hsz
  obtain ⟨v0, vs0, d0, ds0, p0, q0, hargs, rfl, rfl, h0, r0⟩ := trodAll_cons hA
  obtain ⟨v1, vs1, d1, ds1, p1, q1, rfl, rfl, rfl, h1, r1⟩ := trodAll_cons r0
  obtain ⟨v2, vs2, d2, ds2, p2, q2, rfl, rfl, rfl, h2, r2⟩ := trodAll_cons r1
  obtain ⟨rfl, rfl, rfl⟩ := trodAll_nil r2
  obtain rfl : args = #[v0, v1, v2] := by cases args; simp_all
  obtain ⟨rfl, rfl⟩ := trodVars_none hV
  have h0k := h0
  have h1k := h1
  have h2k := h2
  have hlt0 : ∀ x ∈ p0, x.block < W.heap.size := fun x hx => by have := hW'.lt x (by simp [hx]); simpa using this
  have hlt1 : ∀ x ∈ p1, x.block < W.heap.size := fun x hx => by have := hW'.lt x (by simp [hx]); simpa using this
  have hlt2 : ∀ x ∈ p2, x.block < W.heap.size := fun x hx => by have := hW'.lt x (by simp [hx]); simpa using this
  obtain ⟨bA, bn, bc, b, bk, bg, bd, rfl, hb, hkb1, hkb2⟩ := open_box (hval 0 24 v0 rfl rfl) h0 hsz (j := 0) rfl rfl
  obtain ⟨n, rfl, hn⟩ := open_note (hval 1 33 v1 rfl rfl) h1
  obtain ⟨less, rfl, hless1, hless2⟩ := open_I64 Try.underlying3 (hval 2 3 v2 rfl rfl) h2
  clear hA0 hval0
  simp only [List.append_nil] at hW'
  refine (BoxTwice_walk bA bn bc b bk bg bd hb hkb1 hkb2 n hn less hless1 hless2 (w := W)).mono fun e W' ⟨he, hg⟩ => ?_
  subst he
  exact ⟨_, rfl, post_law (pa := p0 ++ (p1 ++ (p2 ++ []))) (pv := []) hW' (fun _ _ _ => (trodAll_cons_mk (shut_bool Try.underlying4 _) trodAll_mk0))
    (trodAll_cons_mk (Below.trod laidOut (by kernel_rfl) (of_decide_eq_true (by kernel_rfl)) h0k hg.out hlt0) (trodAll_cons_mk (Below.trod laidOut (by kernel_rfl) (of_decide_eq_true (by kernel_rfl)) h1k hg.out hlt1) (trodAll_cons_mk (Below.trod laidOut (by kernel_rfl) (of_decide_eq_true (by kernel_rfl)) h2k hg.out hlt2) trodAll_mk0))) rfl (by simp) hg⟩
theorem BoxTwice_holds : Rows.BoxTwiceSaid :=
  OpenClaim.holds_of_wide 4 Try.f4 rfl rfl rfl rfl rfl rfl rfl ⟨rfl, rfl, rfl, rfl, rfl⟩ rfl rfl rfl rfl rfl (by kernel_rfl) Try.func4 (by kernel_rfl)
    (of_decide_eq_true (by kernel_rfl)) (by unfold Func.isWrapper; first | (rw [if_pos (by decide +kernel)]; kernel_rfl) | (rw [if_neg (by decide +kernel)]; exact ⟨rfl, rfl⟩))
    (fun os started H enc _ => BoxTwice_lifted os started H enc)
#print axioms BoxTwice_holds
end Go.Proofs.Ytfngnajcmdaphaa
