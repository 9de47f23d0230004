/- BoxTells: any box may be, or not, has a note put, the first one taken, and is closed, as the document says; two are the same, or not; for every two boxes, note and number. -/
import Derived.Test.YtfngnajcmdaphaaBoxRefTake
import Derived.Deep.DeepCutAuto
namespace Go.Proofs.Ytfngnajcmdaphaa
open Go.RowKit Go.WideShapes Go.ChangeShapes Go.Joins Go.Deep
set_option linter.unusedVariables false
set_option linter.unusedSimpArgs false









theorem rsame_self (A : Option Addr) (n c : Nat) (cap : Int) (l : List Note) (lag cl : Bool) (B : Option Addr) (m d : Nat) (W : World) (h : TL W A n c l) (g : TL W B m d l) : Calls Try.prog 15 #[.agg #[.int .i64 cap, .slice A n c, .bool lag, .bool cl], .agg #[.int .i64 cap, .slice B m d, .bool lag, .bool cl]] W fun e w' => e = .returned (.bool true) ∧ Ext W w' := by
  have k := rsame_any A n c l cap lag cl B m d l cap lag cl W h g
  rw [show sameV cap cap lag lag cl cl l l = true from by unfold sameV; simp [eqT]] at k
  exact k
theorem wpList_load_want {P : Program} {ops : Array Oper} {rest : List Oper} {op : Oper} {a : Act} {w : World} {Q : Exit → Act → World → Prop} (hw : Region.wanted op (yielded ops a.tmps) = true) (ty : TypeId) (x : Operand) (ho : op.op = .load ty x)
    (b o : Nat) (hx : a.eval x = .pointer (some ⟨b, o, none⟩)) (cs : List Value) (d : TypeDesc) (hc : w.rangeAt b o cs)
    (hu : P.underlying ty = some d) (hd : d.isRow = true) (hi : (P.info? ty).map (·.size) = some cs.length)
    (h : wpList P ops Q rest (a.put op.dst (.agg cs.toArray)) w) : wpList P ops Q (op :: rest) a w :=
  BigFrame.wpList_want hw fun _ hK => wp_load_mid ty x ho b o hx cs d hc hu hd hi (hK _ _ h)
set_option maxRecDepth 8000 in
set_option maxHeartbeats 4000000 in
theorem BoxTells_walk {w : World} (bA : Option Addr) (bn bc : Nat) (b : List Note) (bk : Int) (bg bd : Bool) (hb : TL w bA bn bc b) (kb1 : -9223372036854775808 ≤ bk) (kb2 : bk ≤ 9223372036854775807) (cA : Option Addr) (cn cc : Nat) (c : List Note) (ck : Int) (cg cd : Bool) (hc : TL w cA cn cc c) (kc1 : -9223372036854775808 ≤ ck) (kc2 : ck ≤ 9223372036854775807) (n : Note) (hn : n.Ok) (room : Int) (r1 : -9223372036854775808 ≤ room) (r2 : room ≤ 9223372036854775807) :
    Calls Try.prog 6 #[.agg #[.int .i64 bk, .slice bA bn bc, .bool bg, .bool bd], .agg #[.int .i64 ck, .slice cA cn cc, .bool cg, .bool cd], .agg n.cells.toArray, .int .i64 room] w fun e' w' => e' = .returned (.bool true) ∧ Ext w w' := by
  have HAW := Lib.hid (fun W => awake_any W)
  by_cases h1 : 60 < bn
  · have g1 : (60 : Int) < bn := by omega
    go_enter Try.func6, Try.ntmps6
    go_wp2_with fail
    refine (HAW.out _).mono ?_
    rintro e w0 ⟨rfl, hx0⟩
    have k0 : Ext w w0 := Ext.trans ((by repeat (first | assumption | exact Ext.refl _ | refine Ext.alloc ?_ _ | refine Ext.drew ?_ | refine Ext.drewN ?_ _ | refine Ext.setCell ?_ (by first | (simp; done) | omega | (simp; omega)) _ | refine Ext.trans (by assumption) ?_))) hx0
    have rN := rangeAt_ext (range_at (w := (w.alloc (.cells #[.int .i64 bk, .slice bA bn bc, .bool bg, .bool bd] 24)).alloc (.cells #[.int .i64 ck, .slice cA cn cc, .bool cg, .bool cd] 24)) (B := w.heap.size + 1 + 1) n.cells 33 (by simp)) hx0
    obtain ⟨u0, u1, u2, u3, uf⟩ := (hx0).box4 (B := w.heap.size) (a := .int .i64 bk) (b := .slice bA bn bc) (c := .bool bg) (d := .bool bd) (by simp (maxDischargeDepth := 7) [go_sem]) (by simp (maxDischargeDepth := 7) [go_sem]) (by simp (maxDischargeDepth := 7) [go_sem]) (by simp (maxDischargeDepth := 7) [go_sem]) (fun o => by simp (maxDischargeDepth := 7) [go_sem])
    have ul := lt_of_cell u0
    obtain ⟨v0, v1, v2, v3, vf⟩ := (hx0).box4 (B := w.heap.size + 1) (a := .int .i64 ck) (b := .slice cA cn cc) (c := .bool cg) (d := .bool cd) (by simp (maxDischargeDepth := 7) [go_sem]) (by simp (maxDischargeDepth := 7) [go_sem]) (by simp (maxDischargeDepth := 7) [go_sem]) (by simp (maxDischargeDepth := 7) [go_sem]) (fun o => by simp (maxDischargeDepth := 7) [go_sem])
    have vl := lt_of_cell v0
    go_wp2
    go_ret
    exact ⟨rfl, k0⟩
  have g1 : ¬ (60 : Int) < bn := by omega
  by_cases h2 : 60 < cn
  · have g2 : (60 : Int) < cn := by omega
    go_enter Try.func6, Try.ntmps6
    go_wp2_with fail
    refine (HAW.out _).mono ?_
    rintro e w0 ⟨rfl, hx0⟩
    have k0 : Ext w w0 := Ext.trans ((by repeat (first | assumption | exact Ext.refl _ | refine Ext.alloc ?_ _ | refine Ext.drew ?_ | refine Ext.drewN ?_ _ | refine Ext.setCell ?_ (by first | (simp; done) | omega | (simp; omega)) _ | refine Ext.trans (by assumption) ?_))) hx0
    have rN := rangeAt_ext (range_at (w := (w.alloc (.cells #[.int .i64 bk, .slice bA bn bc, .bool bg, .bool bd] 24)).alloc (.cells #[.int .i64 ck, .slice cA cn cc, .bool cg, .bool cd] 24)) (B := w.heap.size + 1 + 1) n.cells 33 (by simp)) hx0
    obtain ⟨u0, u1, u2, u3, uf⟩ := (hx0).box4 (B := w.heap.size) (a := .int .i64 bk) (b := .slice bA bn bc) (c := .bool bg) (d := .bool bd) (by simp (maxDischargeDepth := 7) [go_sem]) (by simp (maxDischargeDepth := 7) [go_sem]) (by simp (maxDischargeDepth := 7) [go_sem]) (by simp (maxDischargeDepth := 7) [go_sem]) (fun o => by simp (maxDischargeDepth := 7) [go_sem])
    have ul := lt_of_cell u0
    obtain ⟨v0, v1, v2, v3, vf⟩ := (hx0).box4 (B := w.heap.size + 1) (a := .int .i64 ck) (b := .slice cA cn cc) (c := .bool cg) (d := .bool cd) (by simp (maxDischargeDepth := 7) [go_sem]) (by simp (maxDischargeDepth := 7) [go_sem]) (by simp (maxDischargeDepth := 7) [go_sem]) (by simp (maxDischargeDepth := 7) [go_sem]) (fun o => by simp (maxDischargeDepth := 7) [go_sem])
    have vl := lt_of_cell v0
    go_wp2
    go_ret
    exact ⟨rfl, k0⟩
  have g2 : ¬ (60 : Int) < cn := by omega
  have hn66 : n.cells.length = 66 := Note.len hn
  have hi66 : (Try.prog.info? 33).map (·.size) = some n.cells.length := by rw [hn66]; kernel_rfl
  obtain ⟨⟨p, PL, pg⟩, hp⟩ : ∃ p, Box.postD bk b bg bd n = p := ⟨_, rfl⟩
  obtain ⟨⟨tb, TS, x⟩, ht⟩ : ∃ p, Box.takeD bk b = p := ⟨_, rfl⟩
  obtain ⟨⟨q, qd⟩, hq⟩ : ∃ p, Box.closeD bk b bd = p := ⟨_, rfl⟩
  obtain ⟨may, hmay⟩ : ∃ m, Box.mayV bk b = m := ⟨_, rfl⟩
  obtain ⟨sm, hsm⟩ : ∃ m, sameV bk ck bg cg bd cd b c = m := ⟨_, rfl⟩
  obtain ⟨nq, hnq⟩ : ∃ m, newQ room = m := ⟨_, rfl⟩
  obtain ⟨nc, hnc⟩ : ∃ m, newC room = m := ⟨_, rfl⟩
  have hlen := hb.len
  have hxo : x.Ok := by
    have : (Box.takeD bk b).2.2.Ok := by unfold Box.takeD; split; exact Box.takeW_ok hb.ok Note.zero_ok; exact Note.zero_ok
    rw [ht] at this; exact this
  have hx66 : x.cells.length = 66 := Note.len hxo
  have hj66 : (Try.prog.info? 33).map (·.size) = some x.cells.length := by rw [hx66]; kernel_rfl
  have HP := Lib.hid (fun W (k : Ext w W) => bpost_any bA bn bc b bk bg bd n W (hb.ext k) hn _ _ _ hp)
  have HRP := Lib.hid (fun W (k : Ext w W) => rpost_any bA bn bc b bk bg bd n W (hb.ext k) hn _ _ _ hp)
  have HT := Lib.hid (fun W (k : Ext w W) => btake_any bA bn bc b bk bg bd W (hb.ext k) _ _ _ hxo ht)
  have HRT := Lib.hid (fun W (k : Ext w W) => rtake_any bA bn bc b bk bg bd W (hb.ext k) _ _ _ ht)
  have HC := Lib.hid (fun W (k : Ext w W) => bclose_any bA bn bc b bk bg bd W (hb.ext k) _ _ hq)
  have HRC := Lib.hid (fun W (k : Ext w W) => rclose_any bA bn bc b bk bg bd W (hb.ext k) _ _ hq)
  have HM := Lib.hid (fun W (k : Ext w W) => bmay_any bA bn bc b bk bg bd W (hb.ext k))
  have HRM := Lib.hid (fun W (k : Ext w W) => rmay_any bA bn bc b bk bg bd W (hb.ext k))
  have HS := Lib.hid (fun W (k : Ext w W) => bsame_any bA bn bc b bk bg bd cA cn cc c ck cg cd W (hb.ext k) (hc.ext k))
  have HRS := Lib.hid (fun W (k : Ext w W) => rsame_any bA bn bc b bk bg bd cA cn cc c ck cg cd W (hb.ext k) (hc.ext k))
  have HN := Lib.hid (fun W => new_any room W)
  have HRN := Lib.hid (fun W => rnew_any room W)
  rw [hmay] at HM HRM
  rw [hsm] at HS HRS
  rw [hnq, hnc] at HN HRN
  rw [hlen] at HC
  have hqn : ∀ W, (binOp .eql 33 (.agg x.cells.toArray) (.agg x.cells.toArray)).run Try.prog W = .ok (.bool true) W := fun W => Note.eql hxo hxo (b := true) (by simp) W
  have hzn := zeroNote
  have hzs := zNote_size
  have hze := zNote_ne
  generalize PL.length = pn at *
  generalize TS.length = sn at *
  clear hmay hsm hnq hnc hlen hb hc hp ht hq h1 h2
  go_enter Try.func6, Try.ntmps6
  go_wp2_with fail
  refine (HAW.out _).mono ?_
  rintro e w0 ⟨rfl, hx0⟩
  have k0 : Ext w w0 := Ext.trans ((by repeat (first | assumption | exact Ext.refl _ | refine Ext.alloc ?_ _ | refine Ext.drew ?_ | refine Ext.drewN ?_ _ | refine Ext.setCell ?_ (by first | (simp; done) | omega | (simp; omega)) _ | refine Ext.trans (by assumption) ?_))) hx0
  have rN := rangeAt_ext (range_at (w := (w.alloc (.cells #[.int .i64 bk, .slice bA bn bc, .bool bg, .bool bd] 24)).alloc (.cells #[.int .i64 ck, .slice cA cn cc, .bool cg, .bool cd] 24)) (B := w.heap.size + 1 + 1) n.cells 33 (by simp)) hx0
  obtain ⟨u0, u1, u2, u3, uf⟩ := (hx0).box4 (B := w.heap.size) (a := .int .i64 bk) (b := .slice bA bn bc) (c := .bool bg) (d := .bool bd) (by simp (maxDischargeDepth := 7) [go_sem]) (by simp (maxDischargeDepth := 7) [go_sem]) (by simp (maxDischargeDepth := 7) [go_sem]) (by simp (maxDischargeDepth := 7) [go_sem]) (fun o => by simp (maxDischargeDepth := 7) [go_sem])
  have ul := lt_of_cell u0
  obtain ⟨v0, v1, v2, v3, vf⟩ := (hx0).box4 (B := w.heap.size + 1) (a := .int .i64 ck) (b := .slice cA cn cc) (c := .bool cg) (d := .bool cd) (by simp (maxDischargeDepth := 7) [go_sem]) (by simp (maxDischargeDepth := 7) [go_sem]) (by simp (maxDischargeDepth := 7) [go_sem]) (by simp (maxDischargeDepth := 7) [go_sem]) (fun o => by simp (maxDischargeDepth := 7) [go_sem])
  have vl := lt_of_cell v0
  go_upto_region 4 with fail
  go_cut [10] (fun s wx => s = .bool true ∧ Ext w0 wx)
  case first =>
    rename_i hJ hMet
    have U := Box4.mk u0 u1 u2 u3 uf
    refine wp_region_noPanic ?_
    refine wp_region_held_drew (S := fun w' => Ext w0 w') (by kernel_rfl) ((Ext.refl _).drew) (fun hHeld => ?_)
    change wpAnyH _ _ _ _ _ 8 (Array.replicate 8 false) _ _
    clear u0 u1 u2 u3 uf ul v0 v1 v2 v3 vf vl hx0 HT HRT HC HRC HM HRM HS HRS HN HRN
    refine wpAnyH_take (i := 0) (v := .agg ([Value.int .i64 bk, Value.slice bA bn bc, Value.bool bg, Value.bool bd]).toArray) rfl (by kernel_rfl) (by kernel_rfl) (by kernel_rfl) (fun _ _ _ h => h) (yieldsIf_load_mid (by rfl) 24 (.tmp 4) (by rfl) w.heap.size 0 (by go_simp) ([Value.int .i64 bk, Value.slice bA bn bc, Value.bool bg, Value.bool bd]) _ (fun w hw => (rangeAt_ext U.box hw)) Try.underlying24 (by rfl) (by kernel_rfl)) hHeld ?_
    (try simp only [List.getElem_toArray, List.getElem_cons_zero, List.getElem_cons_succ, Act.put, List.setIfInBounds_toArray, List.set_cons_zero, List.set_cons_succ])
    refine wpAnyH_take (i := 1) (v := .agg (n.cells).toArray) rfl (by kernel_rfl) (by kernel_rfl) (by kernel_rfl) (fun _ _ _ h => h) (yieldsIf_load_mid (by rfl) 33 (.tmp 6) (by rfl) (w.heap.size + 1 + 1) 0 (by go_simp) (n.cells) _ (fun w hw => (rangeAt_ext rN hw)) Try.underlying33 (by rfl) hi66) hHeld ?_
    (try simp only [List.getElem_toArray, List.getElem_cons_zero, List.getElem_cons_succ, Act.put, List.setIfInBounds_toArray, List.set_cons_zero, List.set_cons_succ])
    refine wpAnyH_take (i := 3) (v := .agg ([Value.int .i64 bk, Value.slice bA bn bc, Value.bool bg, Value.bool bd]).toArray) rfl (by kernel_rfl) (by kernel_rfl) (by kernel_rfl) (fun _ _ _ h => h) (yieldsIf_load_mid (by rfl) 24 (.tmp 4) (by rfl) w.heap.size 0 (by go_simp) ([Value.int .i64 bk, Value.slice bA bn bc, Value.bool bg, Value.bool bd]) _ (fun w hw => (rangeAt_ext U.box hw)) Try.underlying24 (by rfl) (by kernel_rfl)) hHeld ?_
    (try simp only [List.getElem_toArray, List.getElem_cons_zero, List.getElem_cons_succ, Act.put, List.setIfInBounds_toArray, List.set_cons_zero, List.set_cons_succ])
    refine wpAnyH_take (i := 4) (v := .agg (n.cells).toArray) rfl (by kernel_rfl) (by kernel_rfl) (by kernel_rfl) (fun _ _ _ h => h) (yieldsIf_load_mid (by rfl) 33 (.tmp 6) (by rfl) (w.heap.size + 1 + 1) 0 (by go_simp) (n.cells) _ (fun w hw => (rangeAt_ext rN hw)) Try.underlying33 (by rfl) hi66) hHeld ?_
    (try simp only [List.getElem_toArray, List.getElem_cons_zero, List.getElem_cons_succ, Act.put, List.setIfInBounds_toArray, List.set_cons_zero, List.set_cons_succ])
    refine wpAnyH_ready (rs := [2]) (by kernel_rfl) (by simp) ?_
    refine AllReadyH.cons rfl (fun K hK => ?_) ?_
    · go_simp
      refine (HP.out _ (Ext.trans k0 ((by repeat (first | assumption | exact Ext.refl _ | refine Ext.alloc ?_ _ | refine Ext.drew ?_ | refine Ext.drewN ?_ _ | refine Ext.setCell ?_ (by first | (simp; done) | omega | (simp; omega)) _ | refine Ext.trans (by assumption) ?_))))).mono ?_
      rintro e wa ⟨⟨A1, c1, rfl, h1⟩, hxa⟩
      have ka : Ext w0 wa := Ext.trans ((by repeat (first | assumption | exact Ext.refl _ | refine Ext.alloc ?_ _ | refine Ext.drew ?_ | refine Ext.drewN ?_ _ | refine Ext.setCell ?_ (by first | (simp; done) | omega | (simp; omega)) _ | refine Ext.trans (by assumption) ?_))) hxa
      refine hK.out _ _ ka (fun hHeld => ?_)
      clear hK K
      (try simp only [List.getElem_toArray, List.getElem_cons_zero, List.getElem_cons_succ, Act.put, List.setIfInBounds_toArray, List.set_cons_zero, List.set_cons_succ])
      refine wpAnyH_ready (rs := [5]) (by kernel_rfl) (by simp) ?_
      refine AllReadyH.cons rfl (fun K hK => ?_) ?_
      · go_simp
        refine (HRP.out _ (Ext.trans k0 ((by repeat (first | assumption | exact Ext.refl _ | refine Ext.alloc ?_ _ | refine Ext.drew ?_ | refine Ext.drewN ?_ _ | refine Ext.setCell ?_ (by first | (simp; done) | omega | (simp; omega)) _ | refine Ext.trans (by assumption) ?_))))).mono ?_
        rintro e wb ⟨⟨A2, c2, rfl, h2⟩, hxb⟩
        have kb : Ext wa wb := Ext.trans ((by repeat (first | assumption | exact Ext.refl _ | refine Ext.alloc ?_ _ | refine Ext.drew ?_ | refine Ext.drewN ?_ _ | refine Ext.setCell ?_ (by first | (simp; done) | omega | (simp; omega)) _ | refine Ext.trans (by assumption) ?_))) hxb
        refine hK.out _ _ (ka.trans kb) (fun hHeld => ?_)
        clear hK K
        (try simp only [List.getElem_toArray, List.getElem_cons_zero, List.getElem_cons_succ, Act.put, List.setIfInBounds_toArray, List.set_cons_zero, List.set_cons_succ])
        refine wpAnyH_ready (rs := [6]) (by kernel_rfl) (by simp) ?_
        refine AllReadyH.cons rfl (fun K hK => ?_) ?_
        · go_simp
          refine (rsame_self A1 pn c1 bk PL pg bd A2 pn c2 _ (h1.ext (kb.trans ((by repeat (first | assumption | exact Ext.refl _ | refine Ext.alloc ?_ _ | refine Ext.drew ?_ | refine Ext.drewN ?_ _ | refine Ext.setCell ?_ (by first | (simp; done) | omega | (simp; omega)) _ | refine Ext.trans (by assumption) ?_))))) (h2.ext ((by repeat (first | assumption | exact Ext.refl _ | refine Ext.alloc ?_ _ | refine Ext.drew ?_ | refine Ext.drewN ?_ _ | refine Ext.setCell ?_ (by first | (simp; done) | omega | (simp; omega)) _ | refine Ext.trans (by assumption) ?_))))).mono ?_
          rintro e wd ⟨rfl, hxd⟩
          have kd : Ext wb wd := Ext.trans ((by repeat (first | assumption | exact Ext.refl _ | refine Ext.alloc ?_ _ | refine Ext.drew ?_ | refine Ext.drewN ?_ _ | refine Ext.setCell ?_ (by first | (simp; done) | omega | (simp; omega)) _ | refine Ext.trans (by assumption) ?_))) hxd
          refine hK.out _ _ ((ka.trans kb).trans kd) (fun hHeld => ?_)
          clear hK K
          (try simp only [List.getElem_toArray, List.getElem_cons_zero, List.getElem_cons_succ, Act.put, List.setIfInBounds_toArray, List.set_cons_zero, List.set_cons_succ])
          refine wpAnyH_take (i := 7) (v := Value.bool true) rfl (by kernel_rfl) (by kernel_rfl) (by kernel_rfl) (fun _ _ _ h => h) (Or.inl ⟨by rfl, fun _ hSw => by first | (go_simp; done) | (go_simp; with_reducible rfl)⟩) hHeld ?_
          (try simp only [List.getElem_toArray, List.getElem_cons_zero, List.getElem_cons_succ, Act.put, List.setIfInBounds_toArray, List.set_cons_zero, List.set_cons_succ])
          refine wpAnyH_done (by kernel_rfl) ?_ _
          refine NoPanic.normal ?_
          refine hMet _ _ ?_
          go_meet
          exact ⟨rfl, (ka.trans kb).trans kd⟩
        · exact AllReadyH.nil
      · exact AllReadyH.nil
    · exact AllReadyH.nil
  case rest =>
    obtain ⟨rfl, hxc⟩ := hcut
    have kc := k0.trans hxc
    replace uf := (hxc).free u0 uf
    replace u0 := (hxc).cell u0
    replace u1 := (hxc).cell u1
    replace u2 := (hxc).cell u2
    replace u3 := (hxc).cell u3
    replace ul := lt_of_cell u0
    replace vf := (hxc).free v0 vf
    replace v0 := (hxc).cell v0
    replace v1 := (hxc).cell v1
    replace v2 := (hxc).cell v2
    replace v3 := (hxc).cell v3
    replace vl := lt_of_cell v0
    clear HP HRP hx0 hxc k0 rN
    generalize wc = w1 at *
    go_wp2_with fail
    refine (HT.out _ kc).mono ?_
    rintro e w2 ⟨⟨A1, c1, rfl, h1⟩, hx2⟩
    have k2 := kc.trans hx2
    replace uf := (hx2).free u0 uf
    replace u0 := (hx2).cell u0
    replace u1 := (hx2).cell u1
    replace u2 := (hx2).cell u2
    replace u3 := (hx2).cell u3
    replace ul := lt_of_cell u0
    replace vf := (hx2).free v0 vf
    replace v0 := (hx2).cell v0
    replace v1 := (hx2).cell v1
    replace v2 := (hx2).cell v2
    replace v3 := (hx2).cell v3
    replace vl := lt_of_cell v0
    have hl2 : w1.heap.size ≤ w2.heap.size := hx2.size
    go_wp2_with (refine wpList_store_mid rfl 33 _ _ rfl _ 0 x.cells.toArray rfl rfl (there_at (by simp) _ (by rw [List.size_toArray, hx66]; decide)) (by rw [List.size_toArray]; exact hj66) (all_oneCell_toArray (Note.one x)) ?_; rw [List.toList_toArray, setCells_at (by simp) (by rw [hx66]; rfl)])
    refine (HRT.out _ (Ext.trans k2 ((by repeat (first | assumption | exact Ext.refl _ | refine Ext.alloc ?_ _ | refine Ext.drew ?_ | refine Ext.drewN ?_ _ | refine Ext.setCell ?_ (by first | (simp; done) | omega | (simp; omega)) _ | refine Ext.trans (by assumption) ?_))))).mono ?_
    rintro e w3 ⟨⟨A2, c2, rfl, h2⟩, hx3⟩
    have k3 : Ext w2 w3 := Ext.trans ((by repeat (first | assumption | exact Ext.refl _ | refine Ext.alloc ?_ _ | refine Ext.drew ?_ | refine Ext.drewN ?_ _ | refine Ext.setCell ?_ (by first | (simp; done) | omega | (simp; omega)) _ | refine Ext.trans (by assumption) ?_))) hx3
    have rX := rangeAt_ext (range_at (w := w2.alloc (.cells #[.int .i64 bk, .slice A1 sn c1, .bool bg, .bool bd] 24)) (B := w2.heap.size + 1) x.cells 33 (by simp)) hx3
    replace uf := (k3).free u0 uf
    replace u0 := (k3).cell u0
    replace u1 := (k3).cell u1
    replace u2 := (k3).cell u2
    replace u3 := (k3).cell u3
    replace ul := lt_of_cell u0
    replace vf := (k3).free v0 vf
    replace v0 := (k3).cell v0
    replace v1 := (k3).cell v1
    replace v2 := (k3).cell v2
    replace v3 := (k3).cell v3
    replace vl := lt_of_cell v0
    obtain ⟨y0, y1, y2, y3, yf⟩ := (hx3).box4 (B := w2.heap.size) (a := .int .i64 bk) (b := .slice A1 sn c1) (c := .bool bg) (d := .bool bd) (by simp (maxDischargeDepth := 7) [go_sem]) (by simp (maxDischargeDepth := 7) [go_sem]) (by simp (maxDischargeDepth := 7) [go_sem]) (by simp (maxDischargeDepth := 7) [go_sem]) (fun o => by simp (maxDischargeDepth := 7) [go_sem])
    have yl := lt_of_cell y0
    clear HT HRT
    go_upto_region 7 with (refine wpList_store_mid rfl 33 _ _ rfl _ 0 x.cells.toArray rfl rfl (there_at (by simp) _ (by rw [List.size_toArray, hx66]; decide)) (by rw [List.size_toArray]; exact hj66) (all_oneCell_toArray (Note.one x)) ?_; rw [List.toList_toArray, setCells_at (by simp) (by rw [hx66]; rfl)])
    have rY := range_at (w := w3.alloc (.cells #[.int .i64 bk, .slice A2 sn c2, .bool bg, .bool bd] 24)) (B := w3.heap.size + 1) x.cells 33 (by simp)
    have kz : Ext w3 ((w3.alloc (.cells #[.int .i64 bk, .slice A2 sn c2, .bool bg, .bool bd] 24)).alloc (.cells x.cells.toArray 33)) := (by repeat (first | assumption | exact Ext.refl _ | refine Ext.alloc ?_ _ | refine Ext.drew ?_ | refine Ext.drewN ?_ _ | refine Ext.setCell ?_ (by first | (simp; done) | omega | (simp; omega)) _ | refine Ext.trans (by assumption) ?_))
    have bZ : Box4 ((w3.alloc (.cells #[.int .i64 bk, .slice A2 sn c2, .bool bg, .bool bd] 24)).alloc (.cells x.cells.toArray 33)) w3.heap.size bk A2 sn c2 bg bd := Box4.ext (wr := w3.alloc (.cells #[.int .i64 bk, .slice A2 sn c2, .bool bg, .bool bd] 24)) ⟨by simp, by simp, by simp, by simp, fun o => frozen_new _ _ _ _⟩ ((Ext.refl _).alloc _)
    have bU := (Box4.mk u0 u1 u2 u3 uf).ext kz
    have bV := (Box4.mk v0 v1 v2 v3 vf).ext kz
    have bY := (Box4.mk y0 y1 y2 y3 yf).ext kz
    replace rX := rangeAt_ext rX kz
    have k4 := k2.trans (k3.trans kz)
    have t1 := h1.ext (k3.trans kz)
    have t2 := h2.ext kz
    clear u0 u1 u2 u3 uf ul v0 v1 v2 v3 vf vl y0 y1 y2 y3 yf yl h1 h2 hx2 hx3 k2 k3 kz kc hl2
    generalize w2.heap.size + 1 = X12 at *
    generalize w2.heap.size = X11 at *
    generalize w3.heap.size + 1 = X15 at *
    generalize hW4 : ((w3.alloc (.cells #[.int .i64 bk, .slice A2 sn c2, .bool bg, .bool bd] 24)).alloc (.cells x.cells.toArray 33)) = W4 at *
    clear hW4
    generalize w3.heap.size = X14 at *
    have u0 := (bU).c0
    have u1 := (bU).c1
    have u2 := (bU).c2
    have u3 := (bU).c3
    have uf := (bU).f
    have ul := lt_of_cell u0
    have v0 := (bV).c0
    have v1 := (bV).c1
    have v2 := (bV).c2
    have v3 := (bV).c3
    have vf := (bV).f
    have vl := lt_of_cell v0
    have y0 := (bY).c0
    have y1 := (bY).c1
    have y2 := (bY).c2
    have y3 := (bY).c3
    have yf := (bY).f
    have yl := lt_of_cell y0
    have z0 := (bZ).c0
    have z1 := (bZ).c1
    have z2 := (bZ).c2
    have z3 := (bZ).c3
    have zf := (bZ).f
    have zl := lt_of_cell z0
    have RX := Lib.hid rX
    have RY := Lib.hid rY
    have HS1 := Lib.hid (rsame_self A1 sn c1 bk TS bg bd A2 sn c2 W4 t1 t2)
    clear bU bV bY bZ rX rY t1 t2
    go_wp2_with fail
    refine HS1.out.mono ?_
    rintro e w5 ⟨rfl, hx5⟩
    clear HS1
    replace k4 := k4.trans hx5
    have RX5 := Lib.hid (rangeAt_ext RX.out hx5)
    have RY5 := Lib.hid (rangeAt_ext RY.out hx5)
    replace uf := (hx5).free u0 uf
    replace u0 := (hx5).cell u0
    replace u1 := (hx5).cell u1
    replace u2 := (hx5).cell u2
    replace u3 := (hx5).cell u3
    replace ul := lt_of_cell u0
    replace vf := (hx5).free v0 vf
    replace v0 := (hx5).cell v0
    replace v1 := (hx5).cell v1
    replace v2 := (hx5).cell v2
    replace v3 := (hx5).cell v3
    replace vl := lt_of_cell v0
    clear y0 y1 y2 y3 yf yl z0 z1 z2 z3 zf zl RX RY hx5
    go_wp2_with fail
    refine (HC.out _ k4).mono ?_
    rintro e w6 ⟨⟨A3, c3, rfl, h3⟩, hx6⟩
    replace k4 := k4.trans hx6
    have RX6 := Lib.hid (rangeAt_ext RX5.out hx6)
    have RY6 := Lib.hid (rangeAt_ext RY5.out hx6)
    replace uf := (hx6).free u0 uf
    replace u0 := (hx6).cell u0
    replace u1 := (hx6).cell u1
    replace u2 := (hx6).cell u2
    replace u3 := (hx6).cell u3
    replace ul := lt_of_cell u0
    replace vf := (hx6).free v0 vf
    replace v0 := (hx6).cell v0
    replace v1 := (hx6).cell v1
    replace v2 := (hx6).cell v2
    replace v3 := (hx6).cell v3
    replace vl := lt_of_cell v0
    clear RX5 RY5 hx6 HC
    go_wp2_with fail
    refine (HRC.out _ (Ext.trans k4 ((by repeat (first | assumption | exact Ext.refl _ | refine Ext.alloc ?_ _ | refine Ext.drew ?_ | refine Ext.drewN ?_ _ | refine Ext.setCell ?_ (by first | (simp; done) | omega | (simp; omega)) _ | refine Ext.trans (by assumption) ?_))))).mono ?_
    rintro e w7 ⟨⟨A4, c4, rfl, h4⟩, hx7⟩
    have k7 : Ext w6 w7 := Ext.trans ((by repeat (first | assumption | exact Ext.refl _ | refine Ext.alloc ?_ _ | refine Ext.drew ?_ | refine Ext.drewN ?_ _ | refine Ext.setCell ?_ (by first | (simp; done) | omega | (simp; omega)) _ | refine Ext.trans (by assumption) ?_))) hx7
    have RX7 := Lib.hid (rangeAt_ext RX6.out k7)
    have RY7 := Lib.hid (rangeAt_ext RY6.out k7)
    replace uf := (k7).free u0 uf
    replace u0 := (k7).cell u0
    replace u1 := (k7).cell u1
    replace u2 := (k7).cell u2
    replace u3 := (k7).cell u3
    replace ul := lt_of_cell u0
    replace vf := (k7).free v0 vf
    replace v0 := (k7).cell v0
    replace v1 := (k7).cell v1
    replace v2 := (k7).cell v2
    replace v3 := (k7).cell v3
    replace vl := lt_of_cell v0
    obtain ⟨y0, y1, y2, y3, yf⟩ := (hx7).box4 (B := w6.heap.size) (a := .int .i64 bk) (b := .slice A3 bn c3) (c := .bool bg) (d := .bool qd) (by simp (maxDischargeDepth := 7) [go_sem]) (by simp (maxDischargeDepth := 7) [go_sem]) (by simp (maxDischargeDepth := 7) [go_sem]) (by simp (maxDischargeDepth := 7) [go_sem]) (fun o => by simp (maxDischargeDepth := 7) [go_sem])
    have yl := lt_of_cell y0
    replace k4 := k4.trans k7
    have t3 := h3.ext k7
    have HS2 := Lib.hid (fun W (k : Ext w7 W) => rsame_self A3 bn c3 bk b bg qd A4 bn c4 W (t3.ext k) (h4.ext k))
    clear RX6 RY6 hx7 k7 h3 h4 t3 HRC
    go_wp2_with fail
    refine (HS2.out _ ((by repeat (first | assumption | exact Ext.refl _ | refine Ext.alloc ?_ _ | refine Ext.drew ?_ | refine Ext.drewN ?_ _ | refine Ext.setCell ?_ (by first | (simp; done) | omega | (simp; omega)) _ | refine Ext.trans (by assumption) ?_)))).mono ?_
    rintro e w8 ⟨rfl, hx8⟩
    have k8 : Ext w7 w8 := Ext.trans ((by repeat (first | assumption | exact Ext.refl _ | refine Ext.alloc ?_ _ | refine Ext.drew ?_ | refine Ext.drewN ?_ _ | refine Ext.setCell ?_ (by first | (simp; done) | omega | (simp; omega)) _ | refine Ext.trans (by assumption) ?_))) hx8
    have RX8 := Lib.hid (rangeAt_ext RX7.out k8)
    have RY8 := Lib.hid (rangeAt_ext RY7.out k8)
    replace k4 := k4.trans k8
    replace uf := (k8).free u0 uf
    replace u0 := (k8).cell u0
    replace u1 := (k8).cell u1
    replace u2 := (k8).cell u2
    replace u3 := (k8).cell u3
    replace ul := lt_of_cell u0
    replace vf := (k8).free v0 vf
    replace v0 := (k8).cell v0
    replace v1 := (k8).cell v1
    replace v2 := (k8).cell v2
    replace v3 := (k8).cell v3
    replace vl := lt_of_cell v0
    clear RX7 RY7 y0 y1 y2 y3 yf yl hx8 k8 HS2
    go_wp2_with fail
    refine (HN.out _).mono ?_
    rintro e w9 ⟨rfl, hx9⟩
    have RX9 := Lib.hid (rangeAt_ext RX8.out hx9)
    have RY9 := Lib.hid (rangeAt_ext RY8.out hx9)
    replace k4 := k4.trans hx9
    replace uf := (hx9).free u0 uf
    replace u0 := (hx9).cell u0
    replace u1 := (hx9).cell u1
    replace u2 := (hx9).cell u2
    replace u3 := (hx9).cell u3
    replace ul := lt_of_cell u0
    replace vf := (hx9).free v0 vf
    replace v0 := (hx9).cell v0
    replace v1 := (hx9).cell v1
    replace v2 := (hx9).cell v2
    replace v3 := (hx9).cell v3
    replace vl := lt_of_cell v0
    clear RX8 RY8 hx9 HN
    go_wp2_with fail
    refine (HRN.out _).mono ?_
    rintro e w10 ⟨rfl, hx10⟩
    have k10 : Ext w9 w10 := Ext.trans ((by repeat (first | assumption | exact Ext.refl _ | refine Ext.alloc ?_ _ | refine Ext.drew ?_ | refine Ext.drewN ?_ _ | refine Ext.setCell ?_ (by first | (simp; done) | omega | (simp; omega)) _ | refine Ext.trans (by assumption) ?_))) hx10
    have RX10 := Lib.hid (rangeAt_ext RX9.out k10)
    have RY10 := Lib.hid (rangeAt_ext RY9.out k10)
    replace k4 := k4.trans k10
    replace uf := (k10).free u0 uf
    replace u0 := (k10).cell u0
    replace u1 := (k10).cell u1
    replace u2 := (k10).cell u2
    replace u3 := (k10).cell u3
    replace ul := lt_of_cell u0
    replace vf := (k10).free v0 vf
    replace v0 := (k10).cell v0
    replace v1 := (k10).cell v1
    replace v2 := (k10).cell v2
    replace v3 := (k10).cell v3
    replace vl := lt_of_cell v0
    obtain ⟨y0, y1, y2, y3, yf⟩ := (hx10).box4 (B := w9.heap.size) (a := .int .i64 nc) (b := .slice none 0 0) (c := .bool false) (d := .bool false) (by simp (maxDischargeDepth := 7) [go_sem]) (by simp (maxDischargeDepth := 7) [go_sem]) (by simp (maxDischargeDepth := 7) [go_sem]) (by simp (maxDischargeDepth := 7) [go_sem]) (fun o => by simp (maxDischargeDepth := 7) [go_sem])
    have yl := lt_of_cell y0
    clear RX9 RY9 hx10 k10 HRN
    go_wp2_with fail
    refine (rsame_self none 0 0 nc [] false false none 0 0 _ (TL.nil_mk _) (TL.nil_mk _)).mono ?_
    rintro e w11 ⟨rfl, hx11⟩
    have k11 : Ext w10 w11 := Ext.trans ((by repeat (first | assumption | exact Ext.refl _ | refine Ext.alloc ?_ _ | refine Ext.drew ?_ | refine Ext.drewN ?_ _ | refine Ext.setCell ?_ (by first | (simp; done) | omega | (simp; omega)) _ | refine Ext.trans (by assumption) ?_))) hx11
    have RX11 := Lib.hid (rangeAt_ext RX10.out k11)
    have RY11 := Lib.hid (rangeAt_ext RY10.out k11)
    replace k4 := k4.trans k11
    replace uf := (k11).free u0 uf
    replace u0 := (k11).cell u0
    replace u1 := (k11).cell u1
    replace u2 := (k11).cell u2
    replace u3 := (k11).cell u3
    replace ul := lt_of_cell u0
    replace vf := (k11).free v0 vf
    replace v0 := (k11).cell v0
    replace v1 := (k11).cell v1
    replace v2 := (k11).cell v2
    replace v3 := (k11).cell v3
    replace vl := lt_of_cell v0
    clear RX10 RY10 y0 y1 y2 y3 yf yl hx11 k11
    go_wp2_with fail
    refine (HRM.out _ k4).mono ?_
    rintro e w12 ⟨rfl, hx12⟩
    have RX12 := Lib.hid (rangeAt_ext RX11.out hx12)
    have RY12 := Lib.hid (rangeAt_ext RY11.out hx12)
    replace k4 := k4.trans hx12
    replace uf := (hx12).free u0 uf
    replace u0 := (hx12).cell u0
    replace u1 := (hx12).cell u1
    replace u2 := (hx12).cell u2
    replace u3 := (hx12).cell u3
    replace ul := lt_of_cell u0
    replace vf := (hx12).free v0 vf
    replace v0 := (hx12).cell v0
    replace v1 := (hx12).cell v1
    replace v2 := (hx12).cell v2
    replace v3 := (hx12).cell v3
    replace vl := lt_of_cell v0
    clear RX11 RY11 hx12 HRM
    go_wp2_with fail
    refine (HRS.out _ k4).mono ?_
    rintro e w13 ⟨rfl, hx13⟩
    have rX := rangeAt_ext RX12.out hx13
    have rY := rangeAt_ext RY12.out hx13
    replace k4 := k4.trans hx13
    replace uf := (hx13).free u0 uf
    replace u0 := (hx13).cell u0
    replace u1 := (hx13).cell u1
    replace u2 := (hx13).cell u2
    replace u3 := (hx13).cell u3
    replace ul := lt_of_cell u0
    replace vf := (hx13).free v0 vf
    replace v0 := (hx13).cell v0
    replace v1 := (hx13).cell v1
    replace v2 := (hx13).cell v2
    replace v3 := (hx13).cell v3
    replace vl := lt_of_cell v0
    clear RX12 RY12 hx13 HRS
    go_wp2_with (first | (refine wpList_load_want (by rfl) 33 _ rfl _ _ rfl x.cells _ rX Try.underlying33 rfl hj66 ?_) | (refine wpList_load_want (by rfl) 33 _ rfl _ _ rfl x.cells _ rY Try.underlying33 rfl hj66 ?_))
    refine (HM.out _ k4).mono ?_
    rintro e w14 ⟨rfl, hx14⟩
    replace k4 := k4.trans hx14
    replace uf := (hx14).free u0 uf
    replace u0 := (hx14).cell u0
    replace u1 := (hx14).cell u1
    replace u2 := (hx14).cell u2
    replace u3 := (hx14).cell u3
    replace ul := lt_of_cell u0
    replace vf := (hx14).free v0 vf
    replace v0 := (hx14).cell v0
    replace v1 := (hx14).cell v1
    replace v2 := (hx14).cell v2
    replace v3 := (hx14).cell v3
    replace vl := lt_of_cell v0
    clear rX rY HM hx14
    go_wp2_with fail
    refine (HS.out _ k4).mono ?_
    rintro e w15 ⟨rfl, hx15⟩
    go_wp2
    go_ret
    exact ⟨rfl, k4.trans hx15⟩
set_option maxRecDepth 100000 in
theorem BoxTells_lifted (os : Os) (started : os.Started) (H : Type) (enc : TypeId × Value → H) :
    ReturnsInHanded {} Try.checked os 6 .any (Rows.boxTellsSpec.pre6 enc Try.prog Try.f6 Rows.boxTellsRow.domain false) (Rows.boxTellsSpec.post enc Try.prog Try.f6 false true false false) := by
  refine returnsInHanded_of_change_sized (C := Try.checked) own started (by kernel_rfl) Try.func6
    (ChangeSpec.witness6 (enc := enc) (C := Try.checked) false ⟨#[], #[.agg #[.int .i64 0, .slice none 0 0, .bool false, .bool false], .agg #[.int .i64 0, .slice none 0 0, .bool false, .bool false], .agg (Note.cells Note.zero).toArray, .int .i64 0], []⟩ 8 (by kernel_rfl) (by kernel_rfl) (by kernel_rfl) (by kernel_rfl)) ?_
  intro W base args ds gs before hval0 hW _hcnd hsz0 _
  have hval : ∀ (j : Nat) t v, Try.f6.params[j]? = some t → args[j]? = some v → Value.okWide Try.prog W .any base t v := hval0
  have hsz : (DataW.weightsEach Try.prog (Try.f6.params.toList ++ Rows.boxTellsSpec.plain.varTypes Try.prog) (ds ++ gs)).all (· ≤ reachBytes) = true := hsz0
  have hW' := hW
  obtain ⟨p, q, hA0, hV, rfl, hfz, hnd⟩ := hW
  have hA : DataW.TrodAll enc Try.prog W 0 (fun _ => true) true Try.f6.params.toList args.toList ds p := hA0
  rw [Try.params6] at hA hval hsz
  obtain ⟨v0, vs0, d0, ds0, p0, q0, hargs, rfl, rfl, h0, r0⟩ := trodAll_cons hA
  obtain ⟨v1, vs1, d1, ds1, p1, q1, rfl, rfl, rfl, h1, r1⟩ := trodAll_cons r0
  obtain ⟨v2, vs2, d2, ds2, p2, q2, rfl, rfl, rfl, h2, r2⟩ := trodAll_cons r1
  obtain ⟨v3, vs3, d3, ds3, p3, q3, rfl, rfl, rfl, h3, r3⟩ := trodAll_cons r2
  obtain ⟨rfl, rfl, rfl⟩ := trodAll_nil r3
  obtain rfl : args = #[v0, v1, v2, v3] := by cases args; simp_all
  obtain ⟨rfl, rfl⟩ := trodVars_none hV
  have h0k := h0
  have h1k := h1
  have h2k := h2
  have h3k := h3
  have hlt0 : ∀ x ∈ p0, x.block < W.heap.size := fun x hx => by have := hW'.lt x (by simp [hx]); simpa using this
  have hlt1 : ∀ x ∈ p1, x.block < W.heap.size := fun x hx => by have := hW'.lt x (by simp [hx]); simpa using this
  have hlt2 : ∀ x ∈ p2, x.block < W.heap.size := fun x hx => by have := hW'.lt x (by simp [hx]); simpa using this
  have hlt3 : ∀ x ∈ p3, x.block < W.heap.size := fun x hx => by have := hW'.lt x (by simp [hx]); simpa using this
  obtain ⟨bA, bn, bc, b, bk, bg, bd, rfl, hb, hkb1, hkb2⟩ := open_box (hval 0 24 v0 rfl rfl) h0 hsz (j := 0) rfl rfl
  obtain ⟨cA, cn, cc, c, ck, cg, cd, rfl, hc, hkc1, hkc2⟩ := open_box (hval 1 24 v1 rfl rfl) h1 hsz (j := 1) rfl rfl
  obtain ⟨n, rfl, hn⟩ := open_note (hval 2 33 v2 rfl rfl) h2
  obtain ⟨room, rfl, hroom1, hroom2⟩ := open_I64 Try.underlying3 (hval 3 3 v3 rfl rfl) h3
  clear hA0 hval0
  simp only [List.append_nil] at hW'
  refine (BoxTells_walk bA bn bc b bk bg bd hb hkb1 hkb2 cA cn cc c ck cg cd hc hkc1 hkc2 n hn room hroom1 hroom2 (w := W)).mono fun e W' ⟨he, hg⟩ => ?_
  subst he
  exact ⟨_, rfl, post_law (pa := p0 ++ (p1 ++ (p2 ++ (p3 ++ [])))) (pv := []) hW' (fun _ _ _ => (trodAll_cons_mk (shut_bool Try.underlying4 _) trodAll_mk0))
    (trodAll_cons_mk (Below.trod laidOut (by kernel_rfl) (of_decide_eq_true (by kernel_rfl)) h0k hg.out hlt0) (trodAll_cons_mk (Below.trod laidOut (by kernel_rfl) (of_decide_eq_true (by kernel_rfl)) h1k hg.out hlt1) (trodAll_cons_mk (Below.trod laidOut (by kernel_rfl) (of_decide_eq_true (by kernel_rfl)) h2k hg.out hlt2) (trodAll_cons_mk (Below.trod laidOut (by kernel_rfl) (of_decide_eq_true (by kernel_rfl)) h3k hg.out hlt3) trodAll_mk0)))) rfl (by simp) hg⟩
theorem BoxTells_holds : Rows.BoxTellsSaid :=
  OpenClaim.holds_of_wide 6 Try.f6 rfl rfl rfl rfl rfl rfl rfl ⟨rfl, rfl, rfl, rfl, rfl⟩ rfl rfl rfl rfl rfl (by kernel_rfl) Try.func6 (by kernel_rfl)
    (of_decide_eq_true (by kernel_rfl)) (by unfold Func.isWrapper; first | (rw [if_pos (by decide +kernel)]; kernel_rfl) | (rw [if_neg (by decide +kernel)]; exact ⟨rfl, rfl⟩))
    (fun os started H enc _ => BoxTells_lifted os started H enc)
#print axioms BoxTells_holds
end Go.Proofs.Ytfngnajcmdaphaa
