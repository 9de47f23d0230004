/- The contracts of layer 5 (box): May, slices.Clone of notes, own. -/
import Derived.Test.YtfngnajcmdaphaaNote
import Derived.Deep.Cut
import Derived.Deep.RegionHeld3
namespace Go.Proofs.Ytfngnajcmdaphaa
open Go.RowKit Go.WideShapes Go.ChangeShapes
set_option linter.unusedVariables false
set_option linter.unusedSimpArgs false






/-- A block of four cells that lay there lies there still. -/
theorem Ext.box4 {W w1 : World} (h : Ext W w1) {B : Nat} {a b c d : Value} (h0 : W.cell? ⟨B, 0, none⟩ = some a) (h1 : W.cell? ⟨B, 1, none⟩ = some b) (h2 : W.cell? ⟨B, 2, none⟩ = some c) (h3 : W.cell? ⟨B, 3, none⟩ = some d) (hf : ∀ o, W.frozen? ⟨B, o, none⟩ = false) :
    w1.cell? ⟨B, 0, none⟩ = some a ∧ w1.cell? ⟨B, 1, none⟩ = some b ∧ w1.cell? ⟨B, 2, none⟩ = some c ∧ w1.cell? ⟨B, 3, none⟩ = some d ∧ (∀ o, w1.frozen? ⟨B, o, none⟩ = false) :=
  ⟨h.cell h0, h.cell h1, h.cell h2, h.cell h3, fun o => (h.out.frozen (p := ⟨B, o, none⟩) (World.block_lt_of_cell? W ⟨B, 0, none⟩ h0)).trans (hf o)⟩
namespace Box
def nt (l : List Note) (i : Nat) : Note := l.getD i Note.zero
def badAt (l : List Note) (i : Nat) : Bool := decide (0 < i) && decide ((nt l i).ver ≤ (nt l (i - 1)).ver)
def mayV (cap : Int) (l : List Note) : Bool := (List.range l.length).all (fun i => !badAt l i) && (decide (0 ≤ cap) && decide (cap ≤ 8) && decide ((l.length : Int) ≤ cap))
theorem mayV_iff {cap : Int} {l : List Note} : mayV cap l = true ↔ (∀ i, i < l.length → badAt l i = false) ∧ 0 ≤ cap ∧ cap ≤ 8 ∧ (l.length : Int) ≤ cap := by
  unfold mayV
  simp [and_assoc]
theorem mayV_bad {cap : Int} {l : List Note} {i : Nat} (hi : i < l.length) (h : badAt l i = true) : mayV cap l = false := by
  cases hm : mayV cap l with
  | false => rfl
  | true => rw [(mayV_iff.1 hm).1 i hi] at h; cases h
theorem mayV_end {cap : Int} {l : List Note} (h : ∀ i, i < l.length → badAt l i = false) : mayV cap l = (decide (0 ≤ cap) && decide (cap ≤ 8) && decide ((l.length : Int) ≤ cap)) := by
  unfold mayV
  rw [show (List.range l.length).all (fun i => !badAt l i) = true by simp; exact h, Bool.true_and]
end Box
set_option maxHeartbeats 2000000 in
theorem bmay_any (A : Option Addr) (n c : Nat) (NS : List Note) (cap : Int) (lag cl : Bool) (w : World) (h : TL w A n c NS) :
    Calls Try.prog 10 #[.agg #[.int .i64 cap, .slice A n c, .bool lag, .bool cl]] w fun e w' => e = .returned (.bool (Box.mayV cap NS)) ∧ Ext w w' := by
  have hlen := h.len
  have HL := Lib.hid hlen
  have hroom := h.row.room
  have HV := Lib.hid (fun W (k : Ext w W) => h.ext k)
  have hzn := zeroNote
  have hzs := zNote_size
  have hze := zNote_ne
  clear h
  go_enter Try.func10, Try.ntmps10
  go_wp2
  obtain ⟨w1, hw1⟩ : ∃ w1, (w.alloc (.cells #[.int .i64 cap, .slice A n c, .bool lag, .bool cl] 24)) = w1 := ⟨_, rfl⟩
  have p0 : w1.cell? ⟨w.heap.size, 0, none⟩ = some (.int .i64 cap) := by rw [← hw1]; simp (maxDischargeDepth := 7) [go_sem]
  have p1 : w1.cell? ⟨w.heap.size, 1, none⟩ = some (.slice A n c) := by rw [← hw1]; simp (maxDischargeDepth := 7) [go_sem]
  have k1 : Ext w w1 := by rw [← hw1]; exact (by repeat (first | assumption | exact Ext.refl _ | refine Ext.alloc ?_ _ | refine Ext.drew ?_ | refine Ext.drewN ?_ _ | refine Ext.setCell ?_ (by first | (simp; done) | omega | (simp; omega)) _ | refine Ext.trans (by assumption) ?_))
  rw [hw1]
  have P0 := Lib.hid p0
  have P1 := Lib.hid p1
  clear hw1 p0 p1
  go_loopw [3, 4, 8] (fun _ _ i wr => ∃ k : Nat, k ≤ n ∧ i = .int .i64 k ∧ (∀ j, j < k → Box.badAt NS j = false) ∧ Ext w1 wr) (fun _ _ i _ => n - (intOf i).toNat)
  case atStart => exact ⟨0, Nat.zero_le _, rfl, (fun j hj => absurd hj (Nat.not_lt_zero j)), Ext.refl _⟩
  case round =>
    obtain ⟨k, hk, rfl, hno, hx⟩ := hrel
    have p0 := hx.cell P0.out
    have p1 := hx.cell P1.out
    have HNO := Lib.hid hno
    clear hno
    by_cases hlt : k < n
    · obtain ⟨b, off, rfl, hr, hok⟩ := (HV.out wr (k1.trans hx)).at' hlt
      have hbk : Hid (Box.badAt NS k = (decide (0 < k) && decide ((Box.nt NS k).ver ≤ (Box.nt NS (k - 1)).ver))) := by show _ = _; rfl
      change wr.rangeAt _ _ (Box.nt NS k).cells at hr
      replace hok : (Box.nt NS k).Ok := hok
      generalize Box.nt NS k = x at *
      have hi66 : (Try.prog.info? 33).map (·.size) = some x.cells.length := by rw [Note.len hok]; kernel_rfl
      have g1 : (k : Int) < n := by omega
      have R3 := range_at (w := wr) (B := wr.heap.size) x.cells 33 rfl
      have d0 := R3 0 _ (Note.at0 x)
      simp only [Nat.zero_add] at d0
      have hxw : Ext w1 (wr.alloc (.cells x.cells.toArray 33)) := hx.alloc _
      have p1' := ((Ext.refl wr).alloc (.cells x.cells.toArray 33)).cell p1
      by_cases h0 : k = 0
      · have HB : Hid (Box.badAt NS k = false) := by show _ = _; rw [hbk.out, h0]; rfl
        have g0 : decide (0 < k) = false := by simp; omega
        have HK0 := Lib.hid h0
        clear hbk h0 R3
        go_upto_region 4 with (first | (refine wpList_load_mid rfl 33 _ rfl _ _ rfl x.cells _ (rangeAt_ext hr ((by repeat (first | assumption | exact Ext.refl _ | refine Ext.alloc ?_ _ | refine Ext.drew ?_ | refine Ext.drewN ?_ _ | refine Ext.setCell ?_ (by first | (simp; done) | omega | (simp; omega)) _ | refine Ext.trans (by assumption) ?_)))) Try.underlying33 rfl hi66 ?_) | (refine wpList_store_mid rfl 33 _ _ rfl _ 0 x.cells.toArray rfl rfl (there_at (by simp) _ (by rw [List.size_toArray, Note.len hok]; decide)) (by rw [List.size_toArray]; exact hi66) (all_oneCell_toArray (Note.one x)) ?_; rw [List.toList_toArray, setCells_at (by simp) (by rw [Note.len hok]; rfl)]))
        generalize (wr.alloc (.cells x.cells.toArray 33)) = w3 at *
        generalize wr.heap.size = X at *
        try simp only [Act.put, List.setIfInBounds_toArray, List.set_cons_zero, List.set_cons_succ]
        refine wp_region_quiet_lit (by kernel_rfl) (by kernel_rfl) ?_
        repeat (first | go_big_quiet_skip | (go_big_quiet_want; first | ((fail); (try simp only [Act.put, List.setIfInBounds_toArray, List.set_cons_zero, List.set_cons_succ]); go_big_quiet_on) | (go_big_quiet_op; first | go_big_quiet_on | go_big_quiet_call (fail))))
        refine wpQuiet_nil ?_
        intro _ hw'
        obtain ⟨nq', hw''⟩ := hw'
        subst hw''
        go_wp2
        go_roundw
        case rel =>
          have hno' : ∀ j, j < k + 1 → Box.badAt NS j = false := fun j hj => by
            rcases Nat.lt_or_eq_of_le (Nat.lt_succ_iff.1 hj) with h | rfl
            · exact HNO.out j h
            · exact HB.out
          first | exact ⟨k + 1, by omega, by go_num, hno', hxw.drewN _⟩ | (refine ⟨_, _, _, ⟨k + 1, by omega, ?_, hno', hxw.drewN _⟩, rfl, rfl, rfl⟩; go_num)
        case measure => simp [intOf]; omega
      · obtain ⟨m, hm⟩ : ∃ m, k = m + 1 := ⟨k - 1, by omega⟩
        obtain ⟨b2, off2, e2, hr2, hok2⟩ := (HV.out _ (k1.trans hxw)).at' (show m < n by omega)
        obtain ⟨rfl, rfl⟩ : b = b2 ∧ off = off2 := by simpa using e2
        have hbk2 : Hid (Box.badAt NS k = decide (x.ver ≤ (Box.nt NS m).ver)) := by show _ = _; rw [hbk.out, decide_eq_true (show 0 < k by omega), Bool.true_and, show k - 1 = m by omega]
        change World.rangeAt _ _ _ (Box.nt NS m).cells at hr2
        generalize Box.nt NS m = y at *
        have dy := hr2 0 _ (Note.at0 y)
        simp only [Nat.add_zero] at dy
        have g0 : decide (0 < k) = true := by simp; omega
        have hs : (k : Int) - 1 = (m : Int) := by omega
        have hwr : IntKind.i64.wrap ((k : Int) - 1) = (m : Int) := by rw [hs]; exact IntWalk.i64_in _ ⟨by omega, by omega⟩
        have gm : (m : Int) < n := by omega
        have HM := Lib.hid hm
        clear hbk e2 hm h0 R3 hr2 hok2
        by_cases hv : x.ver ≤ y.ver
        · have HR : Hid (Box.mayV cap NS = false) := Box.mayV_bad (i := k) (by omega) (by rw [hbk2.out]; simpa using hv)
          have gv : decide (x.ver ≤ y.ver) = true := by simpa using hv
          clear hbk2 hv
          go_upto_region 4 with (first | (refine wpList_load_mid rfl 33 _ rfl _ _ rfl x.cells _ (rangeAt_ext hr ((by repeat (first | assumption | exact Ext.refl _ | refine Ext.alloc ?_ _ | refine Ext.drew ?_ | refine Ext.drewN ?_ _ | refine Ext.setCell ?_ (by first | (simp; done) | omega | (simp; omega)) _ | refine Ext.trans (by assumption) ?_)))) Try.underlying33 rfl hi66 ?_) | (refine wpList_store_mid rfl 33 _ _ rfl _ 0 x.cells.toArray rfl rfl (there_at (by simp) _ (by rw [List.size_toArray, Note.len hok]; decide)) (by rw [List.size_toArray]; exact hi66) (all_oneCell_toArray (Note.one x)) ?_; rw [List.toList_toArray, setCells_at (by simp) (by rw [Note.len hok]; rfl)]))
          generalize (wr.alloc (.cells x.cells.toArray 33)) = w3 at *
          generalize wr.heap.size = X at *
          try simp only [Act.put, List.setIfInBounds_toArray, List.set_cons_zero, List.set_cons_succ]
          refine wp_region_quiet_lit (by kernel_rfl) (by kernel_rfl) ?_
          repeat (first | go_big_quiet_skip | (go_big_quiet_want; first | ((fail); (try simp only [Act.put, List.setIfInBounds_toArray, List.set_cons_zero, List.set_cons_succ]); go_big_quiet_on) | (go_big_quiet_op; first | go_big_quiet_on | go_big_quiet_call (fail))))
          refine wpQuiet_nil ?_
          intro _ hw'
          obtain ⟨nq', hw''⟩ := hw'
          subst hw''
          go_wp2
          go_ret
          exact ⟨by rw [HR.out]; rfl, (k1.trans hxw).drewN _⟩
        · have HB : Hid (Box.badAt NS k = false) := by show _ = _; rw [hbk2.out]; simpa using hv
          have gv : decide (x.ver ≤ y.ver) = false := by simpa using hv
          clear hbk2 hv
          go_upto_region 4 with (first | (refine wpList_load_mid rfl 33 _ rfl _ _ rfl x.cells _ (rangeAt_ext hr ((by repeat (first | assumption | exact Ext.refl _ | refine Ext.alloc ?_ _ | refine Ext.drew ?_ | refine Ext.drewN ?_ _ | refine Ext.setCell ?_ (by first | (simp; done) | omega | (simp; omega)) _ | refine Ext.trans (by assumption) ?_)))) Try.underlying33 rfl hi66 ?_) | (refine wpList_store_mid rfl 33 _ _ rfl _ 0 x.cells.toArray rfl rfl (there_at (by simp) _ (by rw [List.size_toArray, Note.len hok]; decide)) (by rw [List.size_toArray]; exact hi66) (all_oneCell_toArray (Note.one x)) ?_; rw [List.toList_toArray, setCells_at (by simp) (by rw [Note.len hok]; rfl)]))
          generalize (wr.alloc (.cells x.cells.toArray 33)) = w3 at *
          generalize wr.heap.size = X at *
          try simp only [Act.put, List.setIfInBounds_toArray, List.set_cons_zero, List.set_cons_succ]
          refine wp_region_quiet_lit (by kernel_rfl) (by kernel_rfl) ?_
          repeat (first | go_big_quiet_skip | (go_big_quiet_want; first | ((fail); (try simp only [Act.put, List.setIfInBounds_toArray, List.set_cons_zero, List.set_cons_succ]); go_big_quiet_on) | (go_big_quiet_op; first | go_big_quiet_on | go_big_quiet_call (fail))))
          refine wpQuiet_nil ?_
          intro _ hw'
          obtain ⟨nq', hw''⟩ := hw'
          subst hw''
          go_wp2
          go_roundw
          case rel =>
            have hno' : ∀ j, j < k + 1 → Box.badAt NS j = false := fun j hj => by
              rcases Nat.lt_or_eq_of_le (Nat.lt_succ_iff.1 hj) with h | rfl
              · exact HNO.out j h
              · exact HB.out
            first | exact ⟨k + 1, by omega, by go_num, hno', hxw.drewN _⟩ | (refine ⟨_, _, _, ⟨k + 1, by omega, ?_, hno', hxw.drewN _⟩, rfl, rfl, rfl⟩; go_num)
          case measure => simp [intOf]; omega
    · obtain rfl : n = k := by omega
      have hme := Box.mayV_end (cap := cap) (l := NS) (fun i hi => HNO.out i (by rw [HL.out] at hi; exact hi))
      rw [HL.out] at hme
      have HR := Lib.hid hme
      clear hme
      by_cases c0 : 0 ≤ cap
      · have d0 : decide (0 ≤ cap) = true := by simpa using c0
        by_cases c8 : cap ≤ 8
        · have d8 : decide (cap ≤ 8) = true := by simpa using c8
          have HR' := HR.out
          rw [d0, d8, Bool.true_and, Bool.true_and] at HR'
          clear HR
          have HR := Lib.hid HR'
          clear HR'
          cases dn : decide ((n : Int) ≤ cap) with
          | true =>
            rw [dn] at HR; clear c0 c8
            go_wp2
            go_ret
            exact ⟨by rw [HR.out]; rfl, k1.trans hx⟩
          | false =>
            rw [dn] at HR; clear c0 c8
            go_wp2
            go_ret
            exact ⟨by rw [HR.out]; rfl, k1.trans hx⟩
        · have d8 : decide (cap ≤ 8) = false := by simpa using c8
          rw [d0, d8] at HR
          clear c0 c8
          go_wp2
          go_ret
          exact ⟨by rw [HR.out]; rfl, k1.trans hx⟩
      · have d0 : decide (0 ≤ cap) = false := by simpa using c0
        rw [d0] at HR
        clear c0
        go_wp2
        go_ret
        exact ⟨by rw [HR.out]; rfl, k1.trans hx⟩
set_option maxHeartbeats 1000000 in
theorem cloneT_any (A : Option Addr) (n c : Nat) (NS : List Note) (w : World) (h : TL w A n c NS) :
    Calls Try.prog 30 #[.slice A n c] w fun e w' => (∃ v, e = .returned v ∧ w'.ownsRow w.heap.size 33 66 v n (flatT NS)) ∧ Ext w w' := by
  have hb := h.bytes
  cases A with
  | none =>
    have hc := h.row.nil rfl
    have hn : n = 0 := by have := h.row.cap; omega
    subst hc; subst hn
    have hl : NS = [] := List.eq_nil_of_length_eq_zero h.len
    subst hl
    have hnil := fun w => Lib.run_eql_slice_nil (P := Try.prog) w 22 33 none 0 0 0 0 Try.underlying22
    go_enter Try.func30, Try.ntmps30
    go_wp2
    go_ret
    exact ⟨⟨_, rfl, World.ownsRow_nil _ _ _ _⟩, Ext.refl _⟩
  | some a =>
    have hnil := fun w => Lib.run_eql_slice_nil (P := Try.prog) w 22 33 (some a) n c 0 0 Try.underlying22
    have HS := Lib.hid h.src
    clear h
    go_enter Try.func30, Try.ntmps30
    go_wp2_with (at_builtin; refine wpList_app rowNotes rfl _ _ rfl w.heap.size _ 0 [] rfl (World.ownsRow_made w #[] 0 (Nat.le_refl _) (by unfold maxLen; omega) rfl) (some a) n c (flatT NS) rfl (HS.out.ext ((Ext.refl _).alloc _)) (by omega) (by simp) ?_)
    intro v' w1 hown hgrow _
    go_wp2
    go_ret
    exact ⟨⟨_, rfl, by simpa using hown⟩, ((Ext.refl w).alloc _).grown hgrow (fun k hk => by cases hk; exact Nat.le_refl _)⟩
set_option maxHeartbeats 1000000 in
theorem own_any (A : Option Addr) (n c : Nat) (NS : List Note) (cap : Int) (lag cl : Bool) (w : World) (h : TL w A n c NS) :
    Calls Try.prog 29 #[.agg #[.int .i64 cap, .slice A n c, .bool lag, .bool cl]] w fun e w' => (∃ A2 c2, e = .returned (.agg #[.int .i64 cap, .slice A2 n c2, .bool lag, .bool cl]) ∧ w'.ownsRow (w.heap.size + 2) 33 66 (.slice A2 n c2) n (flatT NS)) ∧ Ext w w' := by
  have HC := Lib.hid (fun W (k : Ext w W) => cloneT_any A n c NS W (h.ext k))
  clear h
  go_enter Try.func29, Try.ntmps29
  go_wp2_with fail
  refine (HC.out _ ((by repeat (first | assumption | exact Ext.refl _ | refine Ext.alloc ?_ _ | refine Ext.drew ?_ | refine Ext.drewN ?_ _ | refine Ext.setCell ?_ (by first | (simp; done) | omega | (simp; omega)) _ | refine Ext.trans (by assumption) ?_)))).mono ?_
  rintro e w1 ⟨⟨v, rfl, hown⟩, hx1⟩
  have k1 : Ext w w1 := Ext.trans ((by repeat (first | assumption | exact Ext.refl _ | refine Ext.alloc ?_ _ | refine Ext.drew ?_ | refine Ext.drewN ?_ _ | refine Ext.setCell ?_ (by first | (simp; done) | omega | (simp; omega)) _ | refine Ext.trans (by assumption) ?_))) hx1
  obtain ⟨b0, b1, b2, b3, bf⟩ := hx1.box4 (B := w.heap.size) (a := .int .i64 cap) (b := .slice A n c) (c := .bool lag) (d := .bool cl) (by simp (maxDischargeDepth := 7) [go_sem]) (by simp (maxDischargeDepth := 7) [go_sem]) (by simp (maxDischargeDepth := 7) [go_sem]) (by simp (maxDischargeDepth := 7) [go_sem]) (fun o => by simp (maxDischargeDepth := 7) [go_sem])
  obtain ⟨u0, u1, u2, u3, uf⟩ := hx1.box4 (B := w.heap.size + 1) (a := .int .i64 0) (b := .slice none 0 0) (c := .bool false) (d := .bool false) (by simp (maxDischargeDepth := 7) [go_sem]) (by simp (maxDischargeDepth := 7) [go_sem]) (by simp (maxDischargeDepth := 7) [go_sem]) (by simp (maxDischargeDepth := 7) [go_sem]) (fun o => by simp (maxDischargeDepth := 7) [go_sem])
  have HOW := Lib.hid hown
  obtain ⟨A', c', rfl⟩ := own_form' hown
  have hz1 := hx1.size
  simp at hz1
  clear hown
  go_wp2
  refine bodyPost_ret (v := .agg #[.int .i64 cap, .slice A' n c', .bool lag, .bool cl]) (by simp (maxDischargeDepth := 7) [results, Try.results29, go_sem, u0, u1, u2, u3, uf]) rfl ⟨⟨_, _, rfl, ?_⟩, ?_⟩
  · have hb := own_base HOW.out (b := w.heap.size + 2) (by simp)
    exact own_setCell (own_setCell (own_setCell (own_setCell (own_setCell hb (by show w.heap.size < w.heap.size + 2; omega) _) (by show w.heap.size + 1 < w.heap.size + 2; omega) _) (by show w.heap.size + 1 < w.heap.size + 2; omega) _) (by show w.heap.size + 1 < w.heap.size + 2; omega) _) (by show w.heap.size + 1 < w.heap.size + 2; omega) _
  · exact ((((k1.setCell (by show w.heap.size ≤ w.heap.size; omega) _).setCell (by show w.heap.size ≤ w.heap.size + 1; omega) _).setCell (by show w.heap.size ≤ w.heap.size + 1; omega) _).setCell (by show w.heap.size ≤ w.heap.size + 1; omega) _).setCell (by show w.heap.size ≤ w.heap.size + 1; omega) _
def newQ (room : Int) : Bool := Box.mayV room []
def newC (room : Int) : Int := if newQ room = true then room else 0
theorem new_any (room : Int) (w : World) :
    Calls Try.prog 20 #[.int .i64 room] w fun e w' => e = .returned (.tuple #[.agg #[.int .i64 (newC room), .slice none 0 0, .bool false, .bool false], .bool (newQ room)]) ∧ Ext w w' := by
  have HM := Lib.hid (fun W => bmay_any none 0 0 [] room false false W (TL.nil_mk W))
  cases hq : newQ room with
  | true =>
    have hc : newC room = room := by unfold newC; rw [hq, if_pos rfl]
    rw [hc]
    rw [show Box.mayV room [] = true from hq] at HM
    clear hq hc
    go_enter Try.func20, Try.ntmps20
    go_wp2_with fail
    refine (HM.out _).mono ?_
    rintro e w1 ⟨rfl, hx1⟩
    have k1 : Ext w w1 := Ext.trans ((by repeat (first | assumption | exact Ext.refl _ | refine Ext.alloc ?_ _ | refine Ext.drew ?_ | refine Ext.drewN ?_ _ | refine Ext.setCell ?_ (by first | (simp; done) | omega | (simp; omega)) _ | refine Ext.trans (by assumption) ?_))) hx1
    obtain ⟨u0, u1, u2, u3, uf⟩ := hx1.box4 (B := w.heap.size) (a := .int .i64 0) (b := .slice none 0 0) (c := .bool false) (d := .bool false) (by simp (maxDischargeDepth := 7) [go_sem]) (by simp (maxDischargeDepth := 7) [go_sem]) (by simp (maxDischargeDepth := 7) [go_sem]) (by simp (maxDischargeDepth := 7) [go_sem]) (fun o => by simp (maxDischargeDepth := 7) [go_sem])
    obtain ⟨b0, b1, b2, b3, bf⟩ := hx1.box4 (B := w.heap.size + 1) (a := .int .i64 room) (b := .slice none 0 0) (c := .bool false) (d := .bool false) (by simp (maxDischargeDepth := 7) [go_sem]) (by simp (maxDischargeDepth := 7) [go_sem]) (by simp (maxDischargeDepth := 7) [go_sem]) (by simp (maxDischargeDepth := 7) [go_sem]) (fun o => by simp (maxDischargeDepth := 7) [go_sem])
    go_wp2
    refine bodyPost_ret (v := .tuple #[.agg #[.int .i64 room, .slice none 0 0, .bool false, .bool false], .bool true]) (by simp (maxDischargeDepth := 7) [results, Try.results20, go_sem, u0, u1, u2, u3, uf]) rfl ⟨rfl, ?_⟩
    exact (((k1.setCell (by show w.heap.size ≤ w.heap.size; omega) _).setCell (by show w.heap.size ≤ w.heap.size; omega) _).setCell (by show w.heap.size ≤ w.heap.size; omega) _).setCell (by show w.heap.size ≤ w.heap.size; omega) _
  | false =>
    have hc : newC room = 0 := by unfold newC; rw [hq, if_neg (by simp)]
    rw [hc]
    rw [show Box.mayV room [] = false from hq] at HM
    clear hq hc
    go_enter Try.func20, Try.ntmps20
    go_wp2_with fail
    refine (HM.out _).mono ?_
    rintro e w1 ⟨rfl, hx1⟩
    have k1 : Ext w w1 := Ext.trans ((by repeat (first | assumption | exact Ext.refl _ | refine Ext.alloc ?_ _ | refine Ext.drew ?_ | refine Ext.drewN ?_ _ | refine Ext.setCell ?_ (by first | (simp; done) | omega | (simp; omega)) _ | refine Ext.trans (by assumption) ?_))) hx1
    obtain ⟨u0, u1, u2, u3, uf⟩ := hx1.box4 (B := w.heap.size) (a := .int .i64 0) (b := .slice none 0 0) (c := .bool false) (d := .bool false) (by simp (maxDischargeDepth := 7) [go_sem]) (by simp (maxDischargeDepth := 7) [go_sem]) (by simp (maxDischargeDepth := 7) [go_sem]) (by simp (maxDischargeDepth := 7) [go_sem]) (fun o => by simp (maxDischargeDepth := 7) [go_sem])
    obtain ⟨b0, b1, b2, b3, bf⟩ := hx1.box4 (B := w.heap.size + 1) (a := .int .i64 room) (b := .slice none 0 0) (c := .bool false) (d := .bool false) (by simp (maxDischargeDepth := 7) [go_sem]) (by simp (maxDischargeDepth := 7) [go_sem]) (by simp (maxDischargeDepth := 7) [go_sem]) (by simp (maxDischargeDepth := 7) [go_sem]) (fun o => by simp (maxDischargeDepth := 7) [go_sem])
    go_wp2
    refine bodyPost_ret (v := .tuple #[.agg #[.int .i64 0, .slice none 0 0, .bool false, .bool false], .bool false]) (by simp (maxDischargeDepth := 7) [results, Try.results20, go_sem, u0, u1, u2, u3, uf]) rfl ⟨rfl, ?_⟩
    exact (((k1.setCell (by show w.heap.size ≤ w.heap.size; omega) _).setCell (by show w.heap.size ≤ w.heap.size; omega) _).setCell (by show w.heap.size ≤ w.heap.size; omega) _).setCell (by show w.heap.size ≤ w.heap.size; omega) _
end Go.Proofs.Ytfngnajcmdaphaa
