/- The contracts of layer 5 (box): the equality of two notes, slices.EqualFunc, Same. -/
import Derived.Test.YtfngnajcmdaphaaBoxMay
namespace Go.Proofs.Ytfngnajcmdaphaa
open Go.RowKit Go.WideShapes Go.ChangeShapes
set_option linter.unusedVariables false
set_option linter.unusedSimpArgs false






theorem list_nt {l m : List Note} (h : l.length = m.length) (e : ∀ k, k < l.length → Box.nt l k = Box.nt m k) : l = m := by
  apply List.ext_getElem h
  intro i h1 h2
  have := e i h1
  unfold Box.nt at this
  simpa [List.getD, h1, h2] using this
def eqT (l k : List Note) : Bool := decide (l = k)
theorem eqT_iff {l k : List Note} : eqT l k = true ↔ l = k := by unfold eqT; simp
theorem eqnote_any (x y : Note) (hx : x.Ok) (hy : y.Ok) (b : Bool) (hb : x.eqb y = b) (w : World) :
    Calls Try.prog 27 #[.agg x.cells.toArray, .agg y.cells.toArray] w fun e w' => e = .returned (.bool b) ∧ Ext w w' := by
  have hi66 : (Try.prog.info? 33).map (·.size) = some x.cells.length := by rw [Note.len hx]; kernel_rfl
  have hj66 : (Try.prog.info? 33).map (·.size) = some y.cells.length := by rw [Note.len hy]; kernel_rfl
  have he : ∀ W, (binOp .eql 33 (.agg x.cells.toArray) (.agg y.cells.toArray)).run Try.prog W = .ok (.bool b) W := fun W => Note.eql hx hy (by rw [← hb]; exact Note.eqb_iff) W
  have rX := rangeAt_ext (range_at (w := w) (B := w.heap.size) x.cells 33 rfl) ((Ext.refl _).alloc (.cells y.cells.toArray 33))
  have rY := range_at (w := w.alloc (.cells x.cells.toArray 33)) (B := w.heap.size + 1) y.cells 33 (by simp)
  clear hb
  go_enter Try.func27, Try.ntmps27
  go_wp2_with (first | (refine wpList_load_mid rfl 33 _ rfl _ _ rfl x.cells _ rX Try.underlying33 rfl hi66 ?_) | (refine wpList_load_mid rfl 33 _ rfl _ _ rfl y.cells _ rY Try.underlying33 rfl hj66 ?_))
  go_ret
  exact ⟨rfl, (by repeat (first | assumption | exact Ext.refl _ | refine Ext.alloc ?_ _ | refine Ext.drew ?_ | refine Ext.drewN ?_ _ | refine Ext.setCell ?_ (by first | (simp; done) | omega | (simp; omega)) _ | refine Ext.trans (by assumption) ?_))⟩






set_option maxHeartbeats 2000000 in
theorem eqfunc_any (A : Option Addr) (n c : Nat) (B : Option Addr) (m d : Nat) (l k : List Note) (w : World) (h : TL w A n c l) (g : TL w B m d k) :
    Calls Try.prog 26 #[.slice A n c, .slice B m d, .func (.func 27) #[] #[]] w fun e w' => e = .returned (.bool (eqT l k)) ∧ Ext w w' := by
  have hl := h.len
  have gl := g.len
  have hroom := h.row.room
  have hzn := zeroNote
  have hzs := zNote_size
  have hze := zNote_ne
  have H1 := Lib.hid (fun W (k : Ext w W) => h.ext k)
  have H2 := Lib.hid (fun W (k : Ext w W) => g.ext k)
  clear h g
  by_cases hlen : n = m
  · subst hlen
    have gne : ((n : Int) != n) = false := by simp
    have HL := Lib.hid hl
    have GL := Lib.hid gl
    clear hl gl
    go_enter Try.func26, Try.ntmps26
    go_wp2
    go_loopw [7, 8, 9, 17] (fun _ _ _ i' wr => ∃ i : Nat, i ≤ n ∧ i' = .int .i64 i ∧ (∀ j, j < i → Box.nt l j = Box.nt k j) ∧ Ext w wr) (fun _ _ _ i' _ => n - (intOf i').toNat)
    case atStart => exact ⟨0, Nat.zero_le _, rfl, (fun j hj => absurd hj (Nat.not_lt_zero j)), Ext.refl _⟩
    case round =>
      obtain ⟨i, hi, rfl, hs, hx⟩ := hrel
      have HS := Lib.hid hs
      clear hs
      by_cases hlt : i < n
      · obtain ⟨b, off, rfl, r1, ok1⟩ := (H1.out _ hx).at' hlt
        obtain ⟨b2, off2, rfl, r2, ok2⟩ := (H2.out _ hx).at' hlt
        change wr.rangeAt _ _ (Box.nt l i).cells at r1
        change wr.rangeAt _ _ (Box.nt k i).cells at r2
        replace ok1 : (Box.nt l i).Ok := ok1
        replace ok2 : (Box.nt k i).Ok := ok2
        have gi : (i : Int) < n := by omega
        obtain ⟨x, ex⟩ : ∃ x, Box.nt l i = x := ⟨_, rfl⟩
        obtain ⟨y, ey⟩ : ∃ y, Box.nt k i = y := ⟨_, rfl⟩
        rw [ex] at r1 ok1
        rw [ey] at r2 ok2
        have hi66 : (Try.prog.info? 33).map (·.size) = some x.cells.length := by rw [Note.len ok1]; kernel_rfl
        have hj66 : (Try.prog.info? 33).map (·.size) = some y.cells.length := by rw [Note.len ok2]; kernel_rfl
        have HX := Lib.hid ex
        have HY := Lib.hid ey
        clear ex ey
        obtain ⟨q, eq⟩ : ∃ q, x.eqb y = q := ⟨_, rfl⟩
        have HE1 := Lib.hid (fun W => eqnote_any x y ok1 ok2 q eq W)
        have HQ := Lib.hid eq
        clear eq
        cases q with
        | true =>
          go_upto_region 7 with (first | (refine wpList_load_mid rfl 33 _ rfl _ _ rfl x.cells _ (rangeAt_ext r1 ((by repeat (first | assumption | exact Ext.refl _ | refine Ext.alloc ?_ _ | refine Ext.drew ?_ | refine Ext.drewN ?_ _ | refine Ext.setCell ?_ (by first | (simp; done) | omega | (simp; omega)) _ | refine Ext.trans (by assumption) ?_)))) Try.underlying33 rfl hi66 ?_) | (refine wpList_store_mid rfl 33 _ _ rfl _ 0 x.cells.toArray rfl rfl (there_at (by simp) _ (by rw [List.size_toArray, Note.len ok1]; decide)) (by rw [List.size_toArray]; exact hi66) (all_oneCell_toArray (Note.one x)) ?_; rw [List.toList_toArray, setCells_at (by simp) (by rw [Note.len ok1]; rfl)]) | (refine wpList_load_mid rfl 33 _ rfl _ _ rfl y.cells _ (rangeAt_ext r2 ((by repeat (first | assumption | exact Ext.refl _ | refine Ext.alloc ?_ _ | refine Ext.drew ?_ | refine Ext.drewN ?_ _ | refine Ext.setCell ?_ (by first | (simp; done) | omega | (simp; omega)) _ | refine Ext.trans (by assumption) ?_)))) Try.underlying33 rfl hj66 ?_) | (refine wpList_store_mid rfl 33 _ _ rfl _ 0 y.cells.toArray rfl rfl (there_at (by simp) _ (by rw [List.size_toArray, Note.len ok2]; decide)) (by rw [List.size_toArray]; exact hj66) (all_oneCell_toArray (Note.one y)) ?_; rw [List.toList_toArray, setCells_at (by simp) (by rw [Note.len ok2]; rfl)]))
          try simp only [Act.put, List.setIfInBounds_toArray, List.set_cons_zero, List.set_cons_succ]
          have rX := rangeAt_ext (range_at (w := wr) (B := wr.heap.size) x.cells 33 rfl) ((Ext.refl _).alloc (.cells y.cells.toArray 33))
          have rY := range_at (w := wr.alloc (.cells x.cells.toArray 33)) (B := wr.heap.size + 1) y.cells 33 (by simp)
          have hx3 : Ext w ((wr.alloc (.cells x.cells.toArray 33)).alloc (.cells y.cells.toArray 33)) := (by repeat (first | assumption | exact Ext.refl _ | refine Ext.alloc ?_ _ | refine Ext.drew ?_ | refine Ext.drewN ?_ _ | refine Ext.setCell ?_ (by first | (simp; done) | omega | (simp; omega)) _ | refine Ext.trans (by assumption) ?_))
          generalize ((wr.alloc (.cells x.cells.toArray 33)).alloc (.cells y.cells.toArray 33)) = w3 at *
          generalize wr.heap.size + 1 = X1 at *
          generalize wr.heap.size = X0 at *
          go_wp2_with (first | (refine wpList_load_mid rfl 33 _ rfl _ _ rfl x.cells _ rX Try.underlying33 rfl hi66 ?_) | (refine wpList_load_mid rfl 33 _ rfl _ _ rfl y.cells _ rY Try.underlying33 rfl hj66 ?_))
          refine (HE1.out w3).mono ?_
          rintro e w4 ⟨rfl, hx4'⟩
          have hx4 : Ext w w4 := hx3.trans hx4'
          go_wp2
          go_roundw
          case rel =>
            have hs' : ∀ j, j < i + 1 → Box.nt l j = Box.nt k j := fun j hj => by
              rcases Nat.lt_or_eq_of_le (Nat.lt_succ_iff.1 hj) with h | rfl
              · exact HS.out j h
              · rw [HX.out, HY.out]; exact Note.eqb_iff.1 HQ.out
            first | exact ⟨i + 1, by omega, by go_num, hs', hx4⟩ | (refine ⟨_, _, _, _, ⟨i + 1, by omega, ?_, hs', hx4⟩, rfl, rfl, rfl, rfl⟩; go_num)
          case measure => simp [intOf]; omega
        | false =>
          have HE : Hid (eqT l k = false) := Bool.eq_false_iff.2 (fun h => by
            have := eqT_iff.1 h
            subst this
            have := HX.out.symm.trans HY.out
            subst this
            have h1 := HQ.out
            rw [Note.eqb_iff.2 rfl] at h1
            cases h1)
          go_upto_region 7 with (first | (refine wpList_load_mid rfl 33 _ rfl _ _ rfl x.cells _ (rangeAt_ext r1 ((by repeat (first | assumption | exact Ext.refl _ | refine Ext.alloc ?_ _ | refine Ext.drew ?_ | refine Ext.drewN ?_ _ | refine Ext.setCell ?_ (by first | (simp; done) | omega | (simp; omega)) _ | refine Ext.trans (by assumption) ?_)))) Try.underlying33 rfl hi66 ?_) | (refine wpList_store_mid rfl 33 _ _ rfl _ 0 x.cells.toArray rfl rfl (there_at (by simp) _ (by rw [List.size_toArray, Note.len ok1]; decide)) (by rw [List.size_toArray]; exact hi66) (all_oneCell_toArray (Note.one x)) ?_; rw [List.toList_toArray, setCells_at (by simp) (by rw [Note.len ok1]; rfl)]) | (refine wpList_load_mid rfl 33 _ rfl _ _ rfl y.cells _ (rangeAt_ext r2 ((by repeat (first | assumption | exact Ext.refl _ | refine Ext.alloc ?_ _ | refine Ext.drew ?_ | refine Ext.drewN ?_ _ | refine Ext.setCell ?_ (by first | (simp; done) | omega | (simp; omega)) _ | refine Ext.trans (by assumption) ?_)))) Try.underlying33 rfl hj66 ?_) | (refine wpList_store_mid rfl 33 _ _ rfl _ 0 y.cells.toArray rfl rfl (there_at (by simp) _ (by rw [List.size_toArray, Note.len ok2]; decide)) (by rw [List.size_toArray]; exact hj66) (all_oneCell_toArray (Note.one y)) ?_; rw [List.toList_toArray, setCells_at (by simp) (by rw [Note.len ok2]; rfl)]))
          try simp only [Act.put, List.setIfInBounds_toArray, List.set_cons_zero, List.set_cons_succ]
          have rX := rangeAt_ext (range_at (w := wr) (B := wr.heap.size) x.cells 33 rfl) ((Ext.refl _).alloc (.cells y.cells.toArray 33))
          have rY := range_at (w := wr.alloc (.cells x.cells.toArray 33)) (B := wr.heap.size + 1) y.cells 33 (by simp)
          have hx3 : Ext w ((wr.alloc (.cells x.cells.toArray 33)).alloc (.cells y.cells.toArray 33)) := (by repeat (first | assumption | exact Ext.refl _ | refine Ext.alloc ?_ _ | refine Ext.drew ?_ | refine Ext.drewN ?_ _ | refine Ext.setCell ?_ (by first | (simp; done) | omega | (simp; omega)) _ | refine Ext.trans (by assumption) ?_))
          generalize ((wr.alloc (.cells x.cells.toArray 33)).alloc (.cells y.cells.toArray 33)) = w3 at *
          generalize wr.heap.size + 1 = X1 at *
          generalize wr.heap.size = X0 at *
          go_wp2_with (first | (refine wpList_load_mid rfl 33 _ rfl _ _ rfl x.cells _ rX Try.underlying33 rfl hi66 ?_) | (refine wpList_load_mid rfl 33 _ rfl _ _ rfl y.cells _ rY Try.underlying33 rfl hj66 ?_))
          refine (HE1.out w3).mono ?_
          rintro e w4 ⟨rfl, hx4'⟩
          have hx4 : Ext w w4 := hx3.trans hx4'
          go_wp2
          go_ret
          exact ⟨by rw [HE.out]; rfl, hx4⟩
      · obtain rfl : n = i := by omega
        have HE : Hid (eqT l k = true) := eqT_iff.2 (list_nt (by rw [HL.out, GL.out]) (fun j hj => HS.out j (by rw [HL.out] at hj; exact hj)))
        go_wp2
        go_ret
        exact ⟨by rw [HE.out]; rfl, hx⟩
  · have HE : Hid (eqT l k = false) := Bool.eq_false_iff.2 (fun h => hlen (by have := eqT_iff.1 h; subst this; exact hl.symm.trans gl))
    have gne : ((n : Int) != m) = true := by simp; omega
    clear hl gl
    go_enter Try.func26, Try.ntmps26
    go_wp2
    go_ret
    exact ⟨by rw [HE.out]; rfl, Ext.refl _⟩
def sameV (cap cap2 : Int) (lag lag2 cl cl2 : Bool) (l k : List Note) : Bool := decide (cap = cap2) && (lag == lag2) && (cl == cl2) && eqT l k
set_option maxHeartbeats 2000000 in
theorem bsame_any (A : Option Addr) (n c : Nat) (l : List Note) (cap : Int) (lag cl : Bool) (B : Option Addr) (m d : Nat) (k : List Note) (cap2 : Int) (lag2 cl2 : Bool) (w : World) (h : TL w A n c l) (g : TL w B m d k) :
    Calls Try.prog 13 #[.agg #[.int .i64 cap, .slice A n c, .bool lag, .bool cl], .agg #[.int .i64 cap2, .slice B m d, .bool lag2, .bool cl2]] w fun e w' => e = .returned (.bool (sameV cap cap2 lag lag2 cl cl2 l k)) ∧ Ext w w' := by
  have H := Lib.hid (fun W (kx : Ext w W) => eqfunc_any A n c B m d l k W (h.ext kx) (g.ext kx))
  clear h g
  have HV : Hid (sameV cap cap2 lag lag2 cl cl2 l k = (decide (cap = cap2) && (lag == lag2) && (cl == cl2) && eqT l k)) := by show _ = _; rfl
  generalize eqT l k = q at *
  generalize sameV cap cap2 lag lag2 cl cl2 l k = r at *
  by_cases hc : cap = cap2
  · subst hc
    have e1 : (cap == cap) = true := by simp
    cases hlag : (lag == lag2) with
    | false =>
      have HR : Hid (r = false) := by show _ = _; rw [HV.out, hlag]; simp
      clear HV H
      go_enter Try.func13, Try.ntmps13
      go_wp2
      go_ret
      exact ⟨by rw [HR.out]; rfl, (by repeat (first | assumption | exact Ext.refl _ | refine Ext.alloc ?_ _ | refine Ext.drew ?_ | refine Ext.drewN ?_ _ | refine Ext.setCell ?_ (by first | (simp; done) | omega | (simp; omega)) _ | refine Ext.trans (by assumption) ?_))⟩
    | true =>
      cases hcl : (cl == cl2) with
      | false =>
        have HR : Hid (r = false) := by show _ = _; rw [HV.out, hcl]; simp
        clear HV H
        go_enter Try.func13, Try.ntmps13
        go_wp2
        go_ret
        exact ⟨by rw [HR.out]; rfl, (by repeat (first | assumption | exact Ext.refl _ | refine Ext.alloc ?_ _ | refine Ext.drew ?_ | refine Ext.drewN ?_ _ | refine Ext.setCell ?_ (by first | (simp; done) | omega | (simp; omega)) _ | refine Ext.trans (by assumption) ?_))⟩
      | true =>
        have HR : Hid (r = q) := by show _ = _; rw [HV.out, hcl, hlag]; simp
        clear HV
        go_enter Try.func13, Try.ntmps13
        go_wp2_with fail
        refine (H.out _ ((by repeat (first | assumption | exact Ext.refl _ | refine Ext.alloc ?_ _ | refine Ext.drew ?_ | refine Ext.drewN ?_ _ | refine Ext.setCell ?_ (by first | (simp; done) | omega | (simp; omega)) _ | refine Ext.trans (by assumption) ?_)))).mono ?_
        rintro e w1 ⟨rfl, hx1⟩
        go_wp2
        go_ret
        exact ⟨by rw [HR.out]; rfl, Ext.trans ((by repeat (first | assumption | exact Ext.refl _ | refine Ext.alloc ?_ _ | refine Ext.drew ?_ | refine Ext.drewN ?_ _ | refine Ext.setCell ?_ (by first | (simp; done) | omega | (simp; omega)) _ | refine Ext.trans (by assumption) ?_))) hx1⟩
  · have e1 : (cap == cap2) = false := by simpa using hc
    have HR : Hid (r = false) := by show _ = _; rw [HV.out, decide_eq_false hc]; simp
    clear HV H hc
    go_enter Try.func13, Try.ntmps13
    go_wp2
    go_ret
    exact ⟨by rw [HR.out]; rfl, (by repeat (first | assumption | exact Ext.refl _ | refine Ext.alloc ?_ _ | refine Ext.drew ?_ | refine Ext.drewN ?_ _ | refine Ext.setCell ?_ (by first | (simp; done) | omega | (simp; omega)) _ | refine Ext.trans (by assumption) ?_))⟩
end Go.Proofs.Ytfngnajcmdaphaa
