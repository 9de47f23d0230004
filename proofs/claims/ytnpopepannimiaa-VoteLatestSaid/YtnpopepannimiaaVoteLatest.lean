/- VoteLatest: of votes that one puts, one behind the other, the one of the greatest epoch that came first stays, unless two of one epoch, while that was the greatest, were for two roots. No conditions. -/
import Derived.Test.YtnpopepannimiaaVoteLaw
import Derived.Test.YtnpopepannimiaaLatOpen
import Derived.Test.YtnpopepannimiaaQuietX
import Derived.Test.YtnpopepannimiaaDraw
import Derived.Deep.DeepCutAuto
import Derived.StillTailTactics
import Derived.Deep.LoopGhost
namespace Go.Proofs.Ytnpopepannimiaa
open Go.RowKit Go.WideShapes Go.ChangeShapes Go.Joins Go.Deep Go.Sort
set_option linter.unusedVariables false
set_option linter.unusedSimpArgs false
set_option linter.unusedSectionVars false










section
variable {LS : List Lat} {o k : Nat} {r : List Int} {e : Nat} {x : Lat}
theorem step_gone (hm : mayV LS o = true) (hk : k < LS.length) (ho : o.testBit k = true) : putV LS o k r e = (LS, o, 0, 0) := by
  rw [put_in hm hk, ho]; simp [howV]
theorem step_new (hm : mayV LS o = true) (hk : k < LS.length) (hx : LS.getD k Lat.none = x) (ho : o.testBit k = false) (h : (!x.has || decide (x.epoch < e)) = true) : putV LS o k r e = (LS.set k ⟨true, r, e⟩, o, 1, 0) := by
  rw [put_in hm hk, hx, ho, if_pos]
  unfold howV; rw [if_neg (by simp), if_pos h]
theorem step_twice (hm : mayV LS o = true) (hk : k < LS.length) (hx : LS.getD k Lat.none = x) (ho : o.testBit k = false) (hh : x.has = true) (he : x.epoch = e) (hr : x.root ≠ r) : putV LS o k r e = (LS.set k Lat.none, o ||| 2 ^ k, 2, 0) := by
  have : howV x false r e = 2 := by unfold howV; simp [hh, he, hr]
  rw [put_in hm hk, hx, ho, this]; rfl
theorem step_old (hm : mayV LS o = true) (hk : k < LS.length) (hx : LS.getD k Lat.none = x) (ho : o.testBit k = false) (hh : x.has = true) (h : e < x.epoch ∨ (x.epoch = e ∧ x.root = r)) : putV LS o k r e = (LS, o, 0, 0) := by
  have : howV x false r e = 1 := by
    unfold howV
    rw [if_neg (by simp), if_neg (by simp [hh]; omega), if_pos]
    rcases h with h | ⟨_, h⟩
    · simp [h]
    · simp [h]
  rw [put_in hm hk, hx, ho, this]; rfl
end
/-- The votes, what is wanted, and whether twice. -/
structure LatP (LS : List Lat) (o : Nat) (x : Lat) (tw : Bool) (k n : Nat) : Prop where
  may : mayV LS o = true
  len : LS.length = n
  at_ : LS.getD k Lat.none = x
  out : o = if tw then 2 ^ k else 0
  ok : x.Ok
/-- The world of a round. -/
structure LatM (w W : World) (Bv Bw Bx n : Nat) (A : Option Addr) (c : Nat) (LS : List Lat) (o : Nat) (x : Lat) : Prop where
  ext : Ext w W
  x0 : W.cell? ⟨Bx, 0, none⟩ = some (.slice A n c)
  x1 : W.cell? ⟨Bx, 1, none⟩ = some (.int .u64 o)
  xf : ∀ j, W.frozen? ⟨Bx, j, none⟩ = false
  vl : VL W A n c LS
  apv : ∀ ad, A = some ad → ad.block ≠ Bv
  apw : ∀ ad, A = some ad → ad.block ≠ Bw
  v0 : ∃ u, W.cell? ⟨Bv, 0, none⟩ = some u
  v1 : ∃ u, W.cell? ⟨Bv, 1, none⟩ = some u
  vf : ∀ j, W.frozen? ⟨Bv, j, none⟩ = false
  wr : W.rangeAt Bw 0 x.cells
  wt : W.there Bw 0 34
namespace LatM
variable {w w' W W' : World} {Bv Bw Bx n : Nat} {A : Option Addr} {c : Nat} {LS : List Lat} {o : Nat} {x y : Lat}
theorem there_ext {b o k : Nat} (h : W.there b o k) (hx : Ext W W') : W'.there b o k := fun j hj => by
  obtain ⟨h1, h2⟩ := h j hj
  obtain ⟨v, hv⟩ := Option.isSome_iff_exists.1 h1
  refine ⟨by rw [hx.cell hv]; rfl, ?_⟩
  have hlt := lt_of_cell hv
  rw [← h2]
  have hb : W'.heap[b]? = W.heap[b]? := hx.out.block b hlt
  unfold World.frozen?
  simp only [hb]
theorem grow (h : LatM w W Bv Bw Bx n A c LS o x) (hx : Ext W W') : LatM w W' Bv Bw Bx n A c LS o x :=
  ⟨h.ext.trans hx, hx.cell h.x0, hx.cell h.x1, hx.free h.x0 h.xf, h.vl.ext hx, h.apv, h.apw, ⟨_, hx.cell h.v0.choose_spec⟩, ⟨_, hx.cell h.v1.choose_spec⟩, hx.free h.v0.choose_spec h.vf, rangeAt_ext h.wr hx, there_ext h.wt hx⟩
theorem VL_setCells {A : Option Addr} {n c : Nat} {LS : List Lat} {B : Nat} (hne : ∀ ad, A = some ad → ad.block ≠ B) : ∀ (vs : List Value) (o : Nat) {W : World}, VL W A n c LS → VL (W.setCells B o vs) A n c LS := by
  intro vs
  induction vs with
  | nil => intro o W h; exact h
  | cons v vs ih => intro o W h; exact ih (o + 1) (h.setCell (p := ⟨B, o, none⟩) hne v)
theorem setW (h : LatM w W Bv Bw Bx n A c LS o x) (hy : y.Ok) (hbw : w.heap.size ≤ Bw) (hxw : Bx ≠ Bw) (hvw : Bv ≠ Bw) : LatM w (W.setCells Bw 0 y.cells) Bv Bw Bx n A c LS o y :=
  ⟨Ext.setCells hbw _ _ h.ext, cell_apart h.x0 hxw, cell_apart h.x1 hxw, fun j => by rw [World.frozen?_setCells]; exact h.xf j, VL_setCells h.apw _ _ h.vl, h.apv, h.apw,
    ⟨_, cell_apart h.v0.choose_spec hvw⟩, ⟨_, cell_apart h.v1.choose_spec hvw⟩, fun j => by rw [World.frozen?_setCells]; exact h.vf j,
    World.rangeAt_setCells_same W Bw 0 y.cells (by rw [Lat.len hy]; exact h.wt), World.there_setCells h.wt _ _ _⟩
theorem range_setCell {b o : Nat} {cs : List Value} (h : W.rangeAt b o cs) {p : Addr} (hne : b ≠ p.block) (v : Value) : (W.setCell p v).rangeAt b o cs := fun j u hu => by
  rw [World.cell?_of_block (w := W) (Below.heap_setCell W p v b hne)]; exact h j u hu
theorem there_setCell {b o k : Nat} (h : W.there b o k) {p : Addr} (hne : b ≠ p.block) (v : Value) : (W.setCell p v).there b o k := fun j hj => by
  obtain ⟨h1, h2⟩ := h j hj
  refine ⟨?_, ?_⟩
  · rw [World.cell?_of_block (w := W) (Below.heap_setCell W p v b hne)]; exact h1
  · rw [World.frozen?_setCell]; exact h2
theorem setV (h : LatM w W Bv Bw Bx n A c LS o x) (hbv : w.heap.size ≤ Bv) (hvw : Bw ≠ Bv) : LatM w ((W.setCell ⟨Bv, 0, none⟩ (.slice A n c)).setCell ⟨Bv, 1, none⟩ (.int .u64 o)) Bv Bw Bv n A c LS o x := by
  obtain ⟨u0, h0⟩ := h.v0
  obtain ⟨u1, h1⟩ := h.v1
  have f := h.vf
  refine ⟨(h.ext.setCell hbv _).setCell hbv _, ?_, ?_, ?_, (h.vl.setCell h.apv _).setCell h.apv _, h.apv, h.apw, ?_, ?_, ?_, range_setCell (range_setCell h.wr hvw _) hvw _, there_setCell (there_setCell h.wt hvw _) hvw _⟩
  · simp (maxDischargeDepth := 7) [go_sem, h0, h1, f]
  · simp (maxDischargeDepth := 7) [go_sem, h0, h1, f]
  · intro j; simp [f j]
  · exact ⟨.slice A n c, by simp (maxDischargeDepth := 7) [go_sem, h0, h1, f]⟩
  · exact ⟨.int .u64 o, by simp (maxDischargeDepth := 7) [go_sem, h0, h1, f]⟩
  · intro j; simp [f j]
theorem put {A3 : Option Addr} {c3 o2 B' : Nat} {LS2 : List Lat} (M : LatM w W Bv Bw B' n A c LS o x) (hx : Ext W W') (x0 : W'.cell? ⟨Bx, 0, none⟩ = some (.slice A3 n c3)) (x1 : W'.cell? ⟨Bx, 1, none⟩ = some (.int .u64 o2)) (xf : ∀ j, W'.frozen? ⟨Bx, j, none⟩ = false) (hv : VL W' A3 n c3 LS2) (hf : ∀ ad, A3 = some ad → W.heap.size ≤ ad.block) : LatM w W' Bv Bw Bx n A3 c3 LS2 o2 x := by
  obtain ⟨u, hu⟩ := M.v0
  have h1 := lt_of_cell hu
  have h2 := lt_of_cell (M.wr 0 _ rfl)
  have G := M.grow hx
  exact ⟨G.ext, x0, x1, xf, hv, fun ad e => by have := hf ad e; replace h1 : Bv < W.heap.size := h1; omega, fun ad e => by have := hf ad e; replace h2 : Bw < W.heap.size := h2; omega, G.v0, G.v1, G.vf, G.wr, G.wt⟩
theorem lts (M : LatM w W Bv Bw Bx n A c LS o x) : Bv < W.heap.size ∧ Bw < W.heap.size := by
  obtain ⟨u, hu⟩ := M.v0
  have h1 := lt_of_cell hu
  have h2 := lt_of_cell (M.wr 0 _ rfl)
  exact ⟨h1, h2⟩
theorem start {B : Nat} {z : Nat} (h : VL w' A n c LS) (hx : Ext w w') (hn : 0 < n) (hB : B = w'.heap.size) : LatM w ((w'.alloc (.cells #[.slice A n c, .int .u64 z] 28)).alloc (.cells Lat.none.cells.toArray 34)) B (B + 1) B n A c LS z Lat.none := by
  subst hB
  have hlt : ∀ ad, A = some ad → ad.block < w'.heap.size := fun ad e => by
    obtain ⟨b, off, e', hr, _⟩ := h.at' hn
    rw [e'] at e; cases e
    exact lt_of_cell (hr 0 _ rfl)
  have h0 : ((w'.alloc (.cells #[.slice A n c, .int .u64 z] 28)).alloc (.cells Lat.none.cells.toArray 34)).cell? ⟨w'.heap.size, 0, none⟩ = some (.slice A n c) := by simp (maxDischargeDepth := 7) [go_sem]
  have h1 : ((w'.alloc (.cells #[.slice A n c, .int .u64 z] 28)).alloc (.cells Lat.none.cells.toArray 34)).cell? ⟨w'.heap.size, 1, none⟩ = some (.int .u64 z) := by simp (maxDischargeDepth := 7) [go_sem]
  have hf : ∀ j, ((w'.alloc (.cells #[.slice A n c, .int .u64 z] 28)).alloc (.cells Lat.none.cells.toArray 34)).frozen? ⟨w'.heap.size, j, none⟩ = false := fun j => by simp (maxDischargeDepth := 7) [go_sem]
  exact ⟨(hx.alloc _).alloc _, h0, h1, hf, h.ext (((Ext.refl _).alloc _).alloc _), fun ad e => by have := hlt ad e; omega, fun ad e => by have := hlt ad e; omega, ⟨_, h0⟩, ⟨_, h1⟩, hf, range_at _ _ (by simp), there_at (by simp) _ (by decide)⟩
end LatM
theorem keepS {W W' : World} {B A n c o b off be oe : _} {cs : List Value} {e : Nat} (B0 : Hid (W.cell? ⟨B, 0, none⟩ = some (.slice A n c))) (B1 : Hid (W.cell? ⟨B, 1, none⟩ = some (.int .u64 o))) (R : Hid (W.rangeAt b off cs)) (E : Hid (W.cell? ⟨be, oe, none⟩ = some (.int .u64 (e : Nat)))) (h : Ext W W') :
    W'.cell? ⟨B, 0, none⟩ = some (.slice A n c) ∧ W'.cell? ⟨B, 1, none⟩ = some (.int .u64 o) ∧ W'.rangeAt b off cs ∧ W'.cell? ⟨be, oe, none⟩ = some (.int .u64 (e : Nat)) :=
  ⟨h.cell B0.out, h.cell B1.out, rangeAt_ext R.out h, h.cell E.out⟩
section
variable {P : Program}
theorem still_load {ops : Array Oper} {op : Oper} {a : Act} {w : World} {K : Act → Prop} (hw : Region.wanted op (yielded ops a.tmps) = true) (ty : TypeId) (x : Operand) (ho : op.op = .load ty x) (b o : Nat) (hx : a.eval x = .pointer (some ⟨b, o, none⟩)) (cs : List Value) (d : TypeDesc) (hc : w.rangeAt b o cs)
    (hu : P.underlying ty = some d) (hd : d.isRow = true) (hi : (P.info? ty).map (·.size) = some cs.length) (h : K (a.put op.dst (.agg cs.toArray))) : if Region.wanted op (yielded ops a.tmps) then op.still P a w K else K (a.put op.dst undef) := by
  rw [if_pos hw]
  unfold Oper.still
  rw [exec_load_mid ty x ho b o hx cs d hc hu hd hi]
  exact ⟨rfl, h⟩
theorem still_build {ops : Array Oper} {o : Oper} {a : Act} {w : World} {K : Act → Prop} (hw : Region.wanted o (yielded ops a.tmps) = true) (t : TypeId) (parts : Array (Nat × Operand)) (ho : o.op = .build t parts) (cells : Array Value) (hc : P.built t (parts.map fun (i, x) => (i, a.eval x)).toList = some cells)
    (h : K (a.put o.dst (.agg cells))) : if Region.wanted o (yielded ops a.tmps) then o.still P a w K else K (a.put o.dst undef) := by
  rw [if_pos hw]
  unfold Oper.still
  rw [exec_build_as t parts ho cells hc]
  exact ⟨rfl, h⟩
end

set_option maxRecDepth 100000 in
set_option maxHeartbeats 8000000 in
theorem VoteLatest_walk {w : World} (n : Int) (n1 : -9223372036854775808 ≤ n) (n2 : n ≤ 9223372036854775807) (val : Int) (q1 : -9223372036854775808 ≤ val) (q2 : val ≤ 9223372036854775807) (RA : Option Addr) (rn rc : Nat) (RS : List (List Int)) (hR : RL w RA rn rc RS) (EA : Option Addr) (en ec : Nat) (ES : List Int) (hE : Ints w .u64 EA en ec ES) :
    Calls Try.prog 3 #[.int .i64 n, .int .i64 val, .slice RA rn rc, .slice EA en ec] w fun e' w' => e' = .returned (.bool true) ∧ Ext w w' := by
  have HA := Lib.hid (fun W => awake_any W)
  have HN := Lib.hid (fun W => new_any n W)
  cases hb : newVB n with
  | false =>
    rw [hb] at HN
    clear hb hR hE
    go_enter Try.func3, Try.ntmps3
    go_wp2_with fail
    refine (HA.out _).mono ?_
    rintro e1 w1 ⟨rfl, hx1⟩
    have k1 : Ext w w1 := Ext.trans ((by repeat (first | assumption | exact Ext.refl _ | refine Ext.alloc ?_ _ | refine Ext.drew ?_ | refine Ext.drewN ?_ _ | refine Ext.setCell ?_ (by first | (simp; done) | omega | (simp; omega)) _ | refine Ext.trans (by assumption) ?_))) hx1
    go_wp2_with fail
    refine (HN.out _).mono ?_
    rintro e2 w2 ⟨⟨A, m, c, rfl, h⟩, hx2⟩
    have k2 : Ext w1 w2 := Ext.trans ((by repeat (first | assumption | exact Ext.refl _ | refine Ext.alloc ?_ _ | refine Ext.drew ?_ | refine Ext.drewN ?_ _ | refine Ext.setCell ?_ (by first | (simp; done) | omega | (simp; omega)) _ | refine Ext.trans (by assumption) ?_))) hx2
    go_wp2
    go_ret
    exact ⟨rfl, (by repeat (first | assumption | exact Ext.refl _ | refine Ext.alloc ?_ _ | refine Ext.drew ?_ | refine Ext.drewN ?_ _ | refine Ext.setCell ?_ (by first | (simp; done) | omega | (simp; omega)) _ | refine Ext.trans (by assumption) ?_))⟩
  | true =>
    rw [hb] at HN
    have hb' : 1 ≤ n ∧ n ≤ 8 := by unfold newVB at hb; exact of_decide_eq_true hb
    clear hb
    obtain ⟨n, rfl⟩ := Int.eq_ofNat_of_zero_le (show 0 ≤ n by omega)
    by_cases hv : val < 0
    · clear hR hE
      go_enter Try.func3, Try.ntmps3
      go_wp2_with fail
      refine (HA.out _).mono ?_
      rintro e1 w1 ⟨rfl, hx1⟩
      have k1 : Ext w w1 := Ext.trans ((by repeat (first | assumption | exact Ext.refl _ | refine Ext.alloc ?_ _ | refine Ext.drew ?_ | refine Ext.drewN ?_ _ | refine Ext.setCell ?_ (by first | (simp; done) | omega | (simp; omega)) _ | refine Ext.trans (by assumption) ?_))) hx1
      go_wp2_with fail
      refine (HN.out _).mono ?_
      rintro e2 w2 ⟨⟨A, m, c, rfl, h⟩, hx2⟩
      have k2 : Ext w1 w2 := Ext.trans ((by repeat (first | assumption | exact Ext.refl _ | refine Ext.alloc ?_ _ | refine Ext.drew ?_ | refine Ext.drewN ?_ _ | refine Ext.setCell ?_ (by first | (simp; done) | omega | (simp; omega)) _ | refine Ext.trans (by assumption) ?_))) hx2
      go_wp2
      go_ret
      exact ⟨rfl, (by repeat (first | assumption | exact Ext.refl _ | refine Ext.alloc ?_ _ | refine Ext.drew ?_ | refine Ext.drewN ?_ _ | refine Ext.setCell ?_ (by first | (simp; done) | omega | (simp; omega)) _ | refine Ext.trans (by assumption) ?_))⟩
    by_cases hvn : (n : Int) ≤ val
    · clear hR hE
      go_enter Try.func3, Try.ntmps3
      go_wp2_with fail
      refine (HA.out _).mono ?_
      rintro e1 w1 ⟨rfl, hx1⟩
      have k1 : Ext w w1 := Ext.trans ((by repeat (first | assumption | exact Ext.refl _ | refine Ext.alloc ?_ _ | refine Ext.drew ?_ | refine Ext.drewN ?_ _ | refine Ext.setCell ?_ (by first | (simp; done) | omega | (simp; omega)) _ | refine Ext.trans (by assumption) ?_))) hx1
      go_wp2_with fail
      refine (HN.out _).mono ?_
      rintro e2 w2 ⟨⟨A, m, c, rfl, h⟩, hx2⟩
      have k2 : Ext w1 w2 := Ext.trans ((by repeat (first | assumption | exact Ext.refl _ | refine Ext.alloc ?_ _ | refine Ext.drew ?_ | refine Ext.drewN ?_ _ | refine Ext.setCell ?_ (by first | (simp; done) | omega | (simp; omega)) _ | refine Ext.trans (by assumption) ?_))) hx2
      go_wp2
      go_ret
      exact ⟨rfl, (by repeat (first | assumption | exact Ext.refl _ | refine Ext.alloc ?_ _ | refine Ext.drew ?_ | refine Ext.drewN ?_ _ | refine Ext.setCell ?_ (by first | (simp; done) | omega | (simp; omega)) _ | refine Ext.trans (by assumption) ?_))⟩
    by_cases hl : rn = en
    · subst hl
      by_cases h20 : (20 : Int) < rn
      · clear hR hE
        go_enter Try.func3, Try.ntmps3
        go_wp2_with fail
        refine (HA.out _).mono ?_
        rintro e1 w1 ⟨rfl, hx1⟩
        have k1 : Ext w w1 := Ext.trans ((by repeat (first | assumption | exact Ext.refl _ | refine Ext.alloc ?_ _ | refine Ext.drew ?_ | refine Ext.drewN ?_ _ | refine Ext.setCell ?_ (by first | (simp; done) | omega | (simp; omega)) _ | refine Ext.trans (by assumption) ?_))) hx1
        go_wp2_with fail
        refine (HN.out _).mono ?_
        rintro e2 w2 ⟨⟨A, m, c, rfl, h⟩, hx2⟩
        have k2 : Ext w1 w2 := Ext.trans ((by repeat (first | assumption | exact Ext.refl _ | refine Ext.alloc ?_ _ | refine Ext.drew ?_ | refine Ext.drewN ?_ _ | refine Ext.setCell ?_ (by first | (simp; done) | omega | (simp; omega)) _ | refine Ext.trans (by assumption) ?_))) hx2
        go_wp2
        go_ret
        exact ⟨rfl, (by repeat (first | assumption | exact Ext.refl _ | refine Ext.alloc ?_ _ | refine Ext.drew ?_ | refine Ext.drewN ?_ _ | refine Ext.setCell ?_ (by first | (simp; done) | omega | (simp; omega)) _ | refine Ext.trans (by assumption) ?_))⟩
      obtain ⟨k, rfl⟩ := Int.eq_ofNat_of_zero_le (show 0 ≤ val by omega)
      have hk : k < n := by omega
      have h8 : n ≤ 8 := by omega
      have hm := may_new (n := n) (by omega) (by omega)
      have g1 : (k : Int) < n := by omega
      have HR := Lib.hid (fun W (k : Ext w W) => hR.ext k)
      have HE := Lib.hid (fun W (k : Ext w W) => hE.ext k)
      clear hR hE
      go_enter Try.func3, Try.ntmps3
      go_wp2_with fail
      refine (HA.out _).mono ?_
      rintro e1 w1 ⟨rfl, hx1⟩
      have k1 : Ext w w1 := Ext.trans ((by repeat (first | assumption | exact Ext.refl _ | refine Ext.alloc ?_ _ | refine Ext.drew ?_ | refine Ext.drewN ?_ _ | refine Ext.setCell ?_ (by first | (simp; done) | omega | (simp; omega)) _ | refine Ext.trans (by assumption) ?_))) hx1
      go_wp2_with fail
      refine (HN.out _).mono ?_
      rintro e2 w2 ⟨⟨A, m, c, rfl, h⟩, hx2⟩
      have k2 : Ext w1 w2 := Ext.trans ((by repeat (first | assumption | exact Ext.refl _ | refine Ext.alloc ?_ _ | refine Ext.drew ?_ | refine Ext.drewN ?_ _ | refine Ext.setCell ?_ (by first | (simp; done) | omega | (simp; omega)) _ | refine Ext.trans (by assumption) ?_))) hx2
      rw [if_pos trivial, Int.toNat_natCast] at h
      have hmn : m = n := by rw [← h.len]; simp
      subst hmn
      clear HA HN
      have hz : (Try.prog.info? 34).map (·.size) = some (Lat.cells Lat.none).toArray.size := by kernel_rfl
      go_wp2_with (refine wpList_store_mid rfl 34 _ _ rfl _ 0 (Lat.cells Lat.none).toArray rfl rfl (there_at (by simp) _ (by decide)) hz (all_oneCell_toArray (Lat.one _)) ?_; rw [List.toList_toArray, setCells_at (by simp) (by rfl)])
      have M0 := LatM.start (z := 0) (B := w2.heap.size) h (k1.trans k2) (by omega) rfl
      have P0 : LatP (List.replicate m Lat.none) 0 Lat.none false k m := ⟨hm, by simp, by simp [List.getD, hk], rfl, Lat.none_ok⟩
      have hb0 : w.heap.size ≤ w2.heap.size := (k1.trans k2).size
      generalize hBv : w2.heap.size = Bv at M0 hb0 ⊢
      generalize ((w2.alloc (.cells #[.slice A m c, .int .u64 0] 28)).alloc (.cells Lat.none.cells.toArray 34)) = w3 at M0 ⊢
      clear hBv h k1 k2 hx1 hx2 hm
      go_loopg [8, 13, 14, 15, 16, 17, 18] rn (fun g _ tw i _ _ _ _ wr => ∃ (j : Nat) (LS : List Lat) (o : Nat) (x : Lat) (b : Bool) (A' : Option Addr) (c' : Nat), j + g = rn ∧ i = .int .i64 j ∧ tw = .bool b ∧ LatM w wr Bv (Bv + 1) Bv m A' c' LS o x ∧ LatP LS o x b k m)
      case atStart => exact ⟨0, _, _, _, _, _, _, by omega, rfl, rfl, M0, P0⟩
      case round =>
        obtain ⟨j, LS, o, x, tw, A', c', hj, rfl, rfl, M, P⟩ := hrel
        clear M0 P0
        cases gk with
        | succ g =>
          have hlt : j < rn := by omega
          have hroom := (HE.out wr M.ext).room
          obtain ⟨br, ro, rfl, hr, hrok⟩ := (HR.out wr M.ext).at' hlt
          obtain ⟨be, eo, rfl, hec⟩ := (HE.out wr M.ext).cells (by omega)
          have he0 := hec j hlt
          have hewf := (HE.out wr M.ext).wf (nth ES j) (by rw [nth_eq (by rw [(HE.out wr M.ext).len]; exact hlt)]; exact List.getElem_mem _)
          clear hec
          generalize nth ES j = ez at he0 hewf
          obtain ⟨e, rfl⟩ := Int.eq_ofNat_of_zero_le (bounds_u64 hewf).1
          have he : e < 18446744073709551616 := by have := (bounds_u64 hewf).2; omega
          generalize RS.getD j zeroR = r at hr hrok
          have hkl : k < LS.length := by rw [P.len]; exact hk
          have ho : o < 18446744073709551616 := by
            rw [P.out]
            have := Nat.pow_lt_pow_right (a := 2) (by omega) (show k < 64 by omega)
            split <;> omega
          have P1 := err_put (r := r) (e := e) P.may hkl
          have hput := fun W (kx : Ext wr W) => put_fresh A' m c' o ho LS k r hrok e he W (M.vl.ext kx)
          obtain ⟨pv, hpv⟩ : ∃ pv, putV LS o k r e = pv := ⟨_, rfl⟩
          obtain ⟨LS2, o2, kk, er⟩ := pv
          simp only [hpv] at P1 hput
          subst P1
          have HP := Lib.hid hput
          have HPV := Lib.hid hpv
          have HM := Lib.hid M
          have B0 := Lib.hid M.x0
          have B1 := Lib.hid M.x1
          have RR := Lib.hid hr
          have EE := Lib.hid he0
          have HPP := Lib.hid P
          have hi32 : (Try.prog.info? 32).map (·.size) = some (rootC r).length := by rw [rootC_len hrok]; kernel_rfl
          have hu32 := Try.underlying32
          have hbv := lt_of_cell M.x0
          clear hput hpv hewf M P HR HE
          have g2 : (j : Int) < rn := by omega
          go_wp2_with fail
          go_cut [15, 16, 17] (fun p q1 q2 wx => ∃ (Bx : Nat) (A3 : Option Addr) (c3 : Nat), p = .pointer (some ⟨Bx, 0, none⟩) ∧ q1 = .int .i64 kk ∧ q2 = .int .i64 0 ∧ Bx ≠ Bv ∧ Bx ≠ Bv + 1 ∧ LatM w wx Bv (Bv + 1) Bx m A3 c3 LS2 o2 x ∧ Ext wr wx)
          case first =>
            go_region_held3 (fun w' => w'.cell? ⟨Bv, 0, none⟩ = some (.slice A' m c') ∧ w'.cell? ⟨Bv, 1, none⟩ = some (.int .u64 o) ∧ w'.rangeAt br (ro + j * 32) (rootC r) ∧ w'.cell? ⟨be, eo + j, none⟩ = some (.int .u64 e)) (exact keepS B0 B1 RR EE (by repeat (first | assumption | exact Ext.refl _ | refine Ext.alloc ?_ _ | refine Ext.drew ?_ | refine Ext.drewN ?_ _ | refine Ext.setCell ?_ (by first | (simp; done) | omega | (simp; omega)) _ | refine Ext.trans (by assumption) ?_))) (first | (go_at_call 11; (with_reducible refine (HP.out _ (((Ext.refl wr).alloc _).drew)).mono ?_); rintro e3 w4 ⟨⟨A3, c3, rfl, hv3, hf3⟩, hx4⟩; obtain ⟨d0, d1, df⟩ := hx4.box2 (B := wr.heap.size) (a := .slice none 0 0) (b := .int .u64 0) (by first | (simp; done) | (simp (maxDischargeDepth := 7) [go_sem]; done)) (by first | (simp; done) | (simp (maxDischargeDepth := 7) [go_sem]; done)) (by first | (simp; done) | (simp (maxDischargeDepth := 7) [go_sem]; done)); have hx5 : Ext wr w4 := Ext.trans (by repeat (first | assumption | exact Ext.refl _ | refine Ext.alloc ?_ _ | refine Ext.drew ?_ | refine Ext.drewN ?_ _ | refine Ext.setCell ?_ (by first | (simp; done) | omega | (simp; omega)) _ | refine Ext.trans (by assumption) ?_)) hx4; have hz5 := hx5.size) | (go_at_call 11; (with_reducible refine (HP.out _ ((Ext.refl wr).drew)).mono ?_); rintro e3 w4 ⟨⟨A3, c3, rfl, hv3, hf3⟩, hx4⟩; have hx5 : Ext wr w4 := Ext.trans (by repeat (first | assumption | exact Ext.refl _ | refine Ext.alloc ?_ _ | refine Ext.drew ?_ | refine Ext.drewN ?_ _ | refine Ext.setCell ?_ (by first | (simp; done) | omega | (simp; omega)) _ | refine Ext.trans (by assumption) ?_)) hx4; have hz5 := hx5.size))
            · go_wp2_with fail
              go_meet
              have hl := HM.out.lts
              refine ⟨w4.heap.size, A3, c3, rfl, rfl, rfl, by omega, by omega, HM.out.put (hx5.alloc _) (by simp) (by simp) (by simp) (hv3.ext ((Ext.refl _).alloc _)) (fun ad e => by have := hf3 ad e; simp at this; omega), hx5.alloc _⟩
            · go_wp2_with fail
              go_meet
              have hl := HM.out.lts
              have hb5 : ∀ ad, A3 = some ad → ad.block ≠ wr.heap.size := fun ad e => by have := hf3 ad e; simp at this; omega
              refine ⟨wr.heap.size, A3, c3, rfl, rfl, rfl, by omega, by omega, HM.out.put ((hx5.setCell (Nat.le_refl _) _).setCell (Nat.le_refl _) _) (by simp (maxDischargeDepth := 7) [go_sem, d0, d1, df]) (by simp (maxDischargeDepth := 7) [go_sem, d0, d1, df]) (by intro j; simp (maxDischargeDepth := 7) [go_sem, d0, d1, df]) ((hv3.setCell hb5 _).setCell hb5 _) (fun ad e => by have := hf3 ad e; simp at this; omega), (hx5.setCell (Nat.le_refl _) _).setCell (Nat.le_refl _) _⟩
          case rest =>
            obtain ⟨Bx, A3, c3, rfl, rfl, rfl, hne1, hne2, M, hxw⟩ := hcut
            obtain ⟨xh, xr, xe⟩ := x
            have P := HPP.out
            have hxok := P.ok
            have hklen := P.len
            have hrxc := rangeAt_ext RR.out hxw
            have hexc := hxw.cell EE.out
            have x0c := M.x0
            have x1c := M.x1
            have cHc := rangeAt_head M.wr (j := 0) (v := .bool xh) rfl
            have cEc := rangeAt_head M.wr (j := 33) (v := .int .u64 xe) (Lat.at33 hxok)
            have cRc : wc.rangeAt (Bv + 1) 1 (rootC xr) := by have := rangeAt_part (xs := [Value.bool xh]) (ys := rootC xr) (zs := [Value.int .u64 xe]) (k := 1) M.wr rfl; rwa [Nat.zero_add] at this
            simp only [Nat.zero_add] at cHc cEc
            have hx32 : (Try.prog.info? 32).map (·.size) = some (rootC xr).length := by rw [rootC_len hxok.1]; kernel_rfl
            have Mc := M
            clear M HP B0 B1 RR EE hbv hr he0
            cases tw with
            | true =>
              have hstep : (LS2, o2, kk, (0 : Int)) = (LS, o, 0, 0) := by
                rw [← HPV.out]
                exact step_gone P.may hkl (by rw [P.out, if_pos rfl]; simp)
              obtain ⟨rfl, rfl, rfl, _⟩ : LS2 = LS ∧ o2 = o ∧ kk = 0 ∧ (0 : Int) = 0 := by simpa using hstep
              have PZ := P
              obtain ⟨X, hX⟩ : ∃ X : Lat, (⟨xh, xr, xe⟩ : Lat) = X := ⟨_, rfl⟩
              have gout : (0 : Int) < o2 := by have := P.out; rw [if_pos rfl] at this; have := Nat.two_pow_pos k; omega
              have gout2 : 0 < o2 := by omega
              have gout3 : decide ((0 : Int) < o2) = true := decide_eq_true gout
              have gout4 : decide (0 < o2) = true := decide_eq_true gout2
              clear hstep HPV HPP P
              go_wp2
              have z0 := fun p => cell_in x0c p
              have z1 := fun p => cell_in x1c p
              have z2 := fun p => cell_in cHc p
              have z3 := fun p => cell_in cEc p
              have z4 := fun p => cell_in hexc p
              refine wp_region_quiet_below (by kernel_rfl) (by kernel_rfl) ?_
              repeat (first | go_big_quiet_skip | (go_big_quiet_want; first | ((fail); (try simp only [Act.put, List.setIfInBounds_toArray, List.set_cons_zero, List.set_cons_succ]); go_big_quiet_on) | (go_big_quiet_op; first | go_big_quiet_on | go_big_quiet_call (fail))))
              refine wpQuiet_nil ?_
              intro _ hw'
              obtain ⟨pq, hw''⟩ := hw'
              subst hw''
              have ya := ext_regrown wc pq
              have Ma := Mc.grow ya
              have x0a := Ma.x0
              have x1a := Ma.x1
              have cHa := ya.cell cHc
              have cEa := ya.cell cEc
              have hexa := ya.cell hexc
              have hrxa := rangeAt_ext hrxc ya
              have cRa := rangeAt_ext cRc ya
              clear z0 z1 z2 z3 z4 x0c x1c cHc cEc hexc hrxc cRc ya Mc
              generalize grow (redrawn wc pq.d) pq.os = wa at *
              go_wp2
              have z0 := fun p => cell_in x0a p
              have z1 := fun p => cell_in x1a p
              have z2 := fun p => cell_in cHa p
              have z3 := fun p => cell_in cEa p
              have z4 := fun p => cell_in hexa p
              refine wp_region_quiet_below (by kernel_rfl) (by kernel_rfl) ?_
              repeat (first | go_big_quiet_skip | (go_big_quiet_want; first | ((fail); (try simp only [Act.put, List.setIfInBounds_toArray, List.set_cons_zero, List.set_cons_succ]); go_big_quiet_on) | (go_big_quiet_op; first | go_big_quiet_on | go_big_quiet_call (fail))))
              refine wpQuiet_nil ?_
              intro _ hw'
              obtain ⟨pq, hw''⟩ := hw'
              subst hw''
              have yb := ext_regrown wa pq
              have Mb := Ma.grow yb
              have x0b := Mb.x0
              have x1b := Mb.x1
              have cHb := yb.cell cHa
              have cEb := yb.cell cEa
              have hexb := yb.cell hexa
              have hrxb := rangeAt_ext hrxa yb
              have cRb := rangeAt_ext cRa yb
              clear z0 z1 z2 z3 z4 x0a x1a cHa cEa hexa hrxa cRa yb Ma
              generalize grow (redrawn wa pq.d) pq.os = wb at *
              go_wp2
              clear hrxb cRb cHb cEb hexb
              rw [hX] at PZ Mb
              clear hX
              have ho2 : o2 < 18446744073709551616 := by
                rw [PZ.out]
                have := Nat.pow_lt_pow_right (a := 2) (by omega) (show k < 64 by omega)
                split <;> omega
              obtain ⟨ab, ao, eA, hrL, hokL⟩ := Mb.vl.at' hk
              rw [PZ.at_] at hrL hokL
              have hmv := fun W (kx : Ext wb W) => vmay_any A3 m c3 o2 ho2 _ W (Mb.vl.ext kx)
              rw [PZ.may] at hmv
              have HMV := Lib.hid hmv
              have hrW := Mb.wr
              have hi34 : (Try.prog.info? 34).map (·.size) = some X.cells.length := by rw [Lat.len hokL]; kernel_rfl
              have hqq : ∀ W, (binOp .neq 34 (.agg X.cells.toArray) (.agg X.cells.toArray)).run Try.prog W = .ok (.bool false) W := fun W => Lat.neq hokL hokL (b := true) (by simp) W
              have x0 := Mb.x0
              have x1 := Mb.x1
              have hMZ := Lib.hid Mb
              have HPZ := Lib.hid PZ
              clear Mb PZ hmv
              subst eA
              have z0 := fun p => cell_in x0 p
              have z1 := fun p => cell_in x1 p
              refine wp_region_quiet_below (by kernel_rfl) (by kernel_rfl) ?_
              repeat (first | go_big_quiet_skip | (go_big_quiet_want; first | ((first | (refine quiet_load_mid 34 _ rfl _ _ rfl X.cells _ (fun W ⟨p, hp⟩ => hp ▸ rangeAt_ext hrL (ext_regrown _ p)) Try.underlying34 rfl hi34 ?_) | (refine quiet_load_mid 34 _ rfl _ _ rfl X.cells _ (fun W ⟨p, hp⟩ => hp ▸ rangeAt_ext hrW (ext_regrown _ p)) Try.underlying34 rfl hi34 ?_)); (try simp only [Act.put, List.setIfInBounds_toArray, List.set_cons_zero, List.set_cons_succ]); go_big_quiet_on) | (go_big_quiet_op; first | go_big_quiet_on | go_big_quiet_call ((go_at_call 12; exact regrown_ext (HMV.out _ (ext_regrown _ _)))))))
              refine wpQuiet_nil ?_
              intro _ hw'
              obtain ⟨pq, hw''⟩ := hw'
              subst hw''
              have MG := hMZ.out.grow (ext_regrown wb pq)
              have x0g := MG.x0
              have x1g := MG.x1
              have hv0 := MG.v0
              have hv1 := MG.v1
              have hvf := MG.vf
              obtain ⟨u0, hu0⟩ := hv0
              obtain ⟨u1, hu1⟩ := hv1
              have HMG := Lib.hid MG
              clear z0 z1 hrL hrW x0 x1 hMZ MG
              generalize grow (redrawn wb pq.d) pq.os = wg at *
              go_wp2
              go_roundg g
              case measure => omega
              case rel =>
                have hset := HMG.out.setV hb0 (by omega)
                exact ⟨j + 1, _, _, _, _, _, _, by omega, by first | rfl | go_num, rfl, hset, HPZ.out⟩
            | false =>
              obtain rfl : o = 0 := by have := P.out; simpa using this
              cases xh with
              | false =>
                have HNEW : Hid ((!(⟨false, xr, xe⟩ : Lat).has || decide ((⟨false, xr, xe⟩ : Lat).epoch < e)) = true) := rfl
                have hstep : (LS2, o2, kk, (0 : Int)) = (LS.set k ⟨true, r, e⟩, 0, 1, 0) := by
                  rw [← HPV.out]
                  exact step_new P.may hkl P.at_ (by simp) HNEW.out
                obtain ⟨rfl, rfl, rfl, _⟩ : LS2 = LS.set k ⟨true, r, e⟩ ∧ o2 = 0 ∧ kk = 1 ∧ (0 : Int) = 0 := by simpa using hstep
                have PZ : LatP (LS.set k ⟨true, r, e⟩) 0 ⟨true, r, e⟩ false k m := ⟨may_taken P.may hkl (by simp), by rw [List.length_set]; exact hklen, by rw [getD_set _ _ _ _ hkl, if_pos rfl], rfl, ⟨hrok, he⟩⟩
                generalize hLS2 : LS.set k ⟨true, r, e⟩ = LS2 at *
                obtain ⟨X, hX⟩ : ∃ X : Lat, (⟨true, r, e⟩ : Lat) = X := ⟨_, rfl⟩
                rw [hX] at PZ
                have hXok : X.Ok := by rw [← hX]; exact ⟨hrok, he⟩
                have hbu : Try.prog.built 34 [(0, .bool true), (1, .agg (rootC r).toArray), (2, .int .u64 e)] = some X.cells.toArray := by rw [← hX]; exact Lat.built hrok e
                have hX34 : (Try.prog.info? 34).map (·.size) = some X.cells.toArray.size := by rw [List.size_toArray, Lat.len hXok]; kernel_rfl
                clear hstep HPV HPP P hX hLS2 HNEW
                go_wp2
                have z0 := fun p => cell_in x0c p
                have z1 := fun p => cell_in x1c p
                have z2 := fun p => cell_in cHc p
                have z3 := fun p => cell_in cEc p
                have z4 := fun p => cell_in hexc p
                refine wp_region_quiet_below (by kernel_rfl) (by kernel_rfl) ?_
                repeat (first | go_big_quiet_skip | (go_big_quiet_want; first | ((fail); (try simp only [Act.put, List.setIfInBounds_toArray, List.set_cons_zero, List.set_cons_succ]); go_big_quiet_on) | (go_big_quiet_op; first | go_big_quiet_on | go_big_quiet_call (fail))))
                refine wpQuiet_nil ?_
                intro _ hw'
                obtain ⟨pq, hw''⟩ := hw'
                subst hw''
                have ya := ext_regrown wc pq
                have Ma := Mc.grow ya
                have x0a := Ma.x0
                have x1a := Ma.x1
                have cHa := ya.cell cHc
                have cEa := ya.cell cEc
                have hexa := ya.cell hexc
                have hrxa := rangeAt_ext hrxc ya
                have cRa := rangeAt_ext cRc ya
                clear z0 z1 z2 z3 z4 x0c x1c cHc cEc hexc hrxc cRc ya Mc
                generalize grow (redrawn wc pq.d) pq.os = wa at *
                go_wp2
                have z0 := fun p => cell_in x0a p
                have z1 := fun p => cell_in x1a p
                have z2 := fun p => cell_in cHa p
                have z3 := fun p => cell_in cEa p
                have z4 := fun p => cell_in hexa p
                refine wp_region_quiet_below (by kernel_rfl) (by kernel_rfl) ?_
                repeat (first | go_big_quiet_skip | (go_big_quiet_want; first | ((fail); (try simp only [Act.put, List.setIfInBounds_toArray, List.set_cons_zero, List.set_cons_succ]); go_big_quiet_on) | (go_big_quiet_op; first | go_big_quiet_on | go_big_quiet_call (fail))))
                refine wpQuiet_nil ?_
                intro _ hw'
                obtain ⟨pq, hw''⟩ := hw'
                subst hw''
                have yb := ext_regrown wa pq
                have Mb := Ma.grow yb
                have x0b := Mb.x0
                have x1b := Mb.x1
                have cHb := yb.cell cHa
                have cEb := yb.cell cEa
                have hexb := yb.cell hexa
                have hrxb := rangeAt_ext hrxa yb
                have cRb := rangeAt_ext cRa yb
                clear z0 z1 z2 z3 z4 x0a x1a cHa cEa hexa hrxa cRa yb Ma
                generalize grow (redrawn wa pq.d) pq.os = wb at *
                go_wp2
                refine wp_region_still_tail 9 (by kernel_rfl) (by kernel_rfl) ?_
                simp only [List.take_succ_cons, List.take_zero, List.drop_succ_cons, List.drop_zero]
                have kd : Ext wb wb.drew := (Ext.refl _).drew
                have Md := Mb.grow kd
                have hrxd := rangeAt_ext hrxb kd
                have hexd := kd.cell hexb
                change wpStill _ _ wb.drew _ _ _
                repeat (first | (refine wpStill_step (fun K hK => ?_); refine still_load (by rfl) 32 _ rfl _ _ rfl (rootC r) _ hrxd Try.underlying32 rfl hi32 ?_; (try simp only [Act.put, List.setIfInBounds_toArray, List.set_cons_zero, List.set_cons_succ]); refine hK _ ?_; clear hK K) | (refine wpStill_step (fun K hK => ?_); refine still_build (by rfl) 34 _ rfl X.cells.toArray (by simp [go_sem]; exact hbu) ?_; (try simp only [Act.put, List.setIfInBounds_toArray, List.set_cons_zero, List.set_cons_succ]); refine hK _ ?_; clear hK K) | still_step)
                try refine wpStill_nil ?_
                show wpList _ _ _ _ _ wb.drew
                have hthere : wb.drew.there (Bv + 1) 0 X.cells.toArray.size := by rw [List.size_toArray, Lat.len hXok]; exact Md.wt
                have Mf := Md.setW hXok (y := X) (by omega) hne2 (by omega)
                clear hrxd hexd hrxb hexb cRb cHb cEb x0b x1b Mb Md
                generalize wb.drew = wd at hthere Mf ⊢
                go_wp2_with (refine wpList_store_mid rfl 34 _ _ rfl (Bv + 1) 0 X.cells.toArray rfl rfl hthere hX34 (all_oneCell_toArray (Lat.one X)) ?_; rw [List.toList_toArray]; generalize wd.setCells (Bv + 1) 0 X.cells = wf at Mf ⊢)
                have ho2 : 0 < 18446744073709551616 := by
                  rw [PZ.out]
                  have := Nat.pow_lt_pow_right (a := 2) (by omega) (show k < 64 by omega)
                  split <;> omega
                obtain ⟨ab, ao, eA, hrL, hokL⟩ := Mf.vl.at' hk
                rw [PZ.at_] at hrL hokL
                have hmv := fun W (kx : Ext wf W) => vmay_any A3 m c3 0 ho2 _ W (Mf.vl.ext kx)
                rw [PZ.may] at hmv
                have HMV := Lib.hid hmv
                have hrW := Mf.wr
                have hi34 : (Try.prog.info? 34).map (·.size) = some X.cells.length := by rw [Lat.len hokL]; kernel_rfl
                have hqq : ∀ W, (binOp .neq 34 (.agg X.cells.toArray) (.agg X.cells.toArray)).run Try.prog W = .ok (.bool false) W := fun W => Lat.neq hokL hokL (b := true) (by simp) W
                have x0 := Mf.x0
                have x1 := Mf.x1
                have hMZ := Lib.hid Mf
                have HPZ := Lib.hid PZ
                clear Mf PZ hmv
                subst eA
                have z0 := fun p => cell_in x0 p
                have z1 := fun p => cell_in x1 p
                refine wp_region_quiet_below (by kernel_rfl) (by kernel_rfl) ?_
                repeat (first | go_big_quiet_skip | (go_big_quiet_want; first | ((first | (refine quiet_load_mid 34 _ rfl _ _ rfl X.cells _ (fun W ⟨p, hp⟩ => hp ▸ rangeAt_ext hrL (ext_regrown _ p)) Try.underlying34 rfl hi34 ?_) | (refine quiet_load_mid 34 _ rfl _ _ rfl X.cells _ (fun W ⟨p, hp⟩ => hp ▸ rangeAt_ext hrW (ext_regrown _ p)) Try.underlying34 rfl hi34 ?_)); (try simp only [Act.put, List.setIfInBounds_toArray, List.set_cons_zero, List.set_cons_succ]); go_big_quiet_on) | (go_big_quiet_op; first | go_big_quiet_on | go_big_quiet_call ((go_at_call 12; exact regrown_ext (HMV.out _ (ext_regrown _ _)))))))
                refine wpQuiet_nil ?_
                intro _ hw'
                obtain ⟨pq, hw''⟩ := hw'
                subst hw''
                have MG := hMZ.out.grow (ext_regrown wf pq)
                have x0g := MG.x0
                have x1g := MG.x1
                have hv0 := MG.v0
                have hv1 := MG.v1
                have hvf := MG.vf
                obtain ⟨u0, hu0⟩ := hv0
                obtain ⟨u1, hu1⟩ := hv1
                have HMG := Lib.hid MG
                clear z0 z1 hrL hrW x0 x1 hMZ MG
                generalize grow (redrawn wf pq.d) pq.os = wg at *
                go_wp2
                go_roundg g
                case measure => omega
                case rel =>
                  have hset := HMG.out.setV hb0 (by omega)
                  exact ⟨j + 1, _, _, _, _, _, _, by omega, by first | rfl | go_num, rfl, hset, HPZ.out⟩
              | true =>
                rcases Nat.lt_trichotomy xe e with hlt1 | heq1 | hgt1
                · have HNEW : Hid ((!(⟨true, xr, xe⟩ : Lat).has || decide ((⟨true, xr, xe⟩ : Lat).epoch < e)) = true) := by show (!true || decide (xe < e)) = true; rw [decide_eq_true hlt1]; rfl
                  have ge1 : ((xe : Int) == e) = false := by first | (simp; done) | (simp; omega)
                  have ge2 : (xe : Int) < e := by omega
                  clear hlt1
                  have hstep : (LS2, o2, kk, (0 : Int)) = (LS.set k ⟨true, r, e⟩, 0, 1, 0) := by
                    rw [← HPV.out]
                    exact step_new P.may hkl P.at_ (by simp) HNEW.out
                  obtain ⟨rfl, rfl, rfl, _⟩ : LS2 = LS.set k ⟨true, r, e⟩ ∧ o2 = 0 ∧ kk = 1 ∧ (0 : Int) = 0 := by simpa using hstep
                  have PZ : LatP (LS.set k ⟨true, r, e⟩) 0 ⟨true, r, e⟩ false k m := ⟨may_taken P.may hkl (by simp), by rw [List.length_set]; exact hklen, by rw [getD_set _ _ _ _ hkl, if_pos rfl], rfl, ⟨hrok, he⟩⟩
                  generalize hLS2 : LS.set k ⟨true, r, e⟩ = LS2 at *
                  obtain ⟨X, hX⟩ : ∃ X : Lat, (⟨true, r, e⟩ : Lat) = X := ⟨_, rfl⟩
                  rw [hX] at PZ
                  have hXok : X.Ok := by rw [← hX]; exact ⟨hrok, he⟩
                  have hbu : Try.prog.built 34 [(0, .bool true), (1, .agg (rootC r).toArray), (2, .int .u64 e)] = some X.cells.toArray := by rw [← hX]; exact Lat.built hrok e
                  have hX34 : (Try.prog.info? 34).map (·.size) = some X.cells.toArray.size := by rw [List.size_toArray, Lat.len hXok]; kernel_rfl
                  clear hstep HPV HPP P hX hLS2 HNEW
                  go_wp2
                  have z0 := fun p => cell_in x0c p
                  have z1 := fun p => cell_in x1c p
                  have z2 := fun p => cell_in cHc p
                  have z3 := fun p => cell_in cEc p
                  have z4 := fun p => cell_in hexc p
                  refine wp_region_quiet_below (by kernel_rfl) (by kernel_rfl) ?_
                  repeat (first | go_big_quiet_skip | (go_big_quiet_want; first | ((fail); (try simp only [Act.put, List.setIfInBounds_toArray, List.set_cons_zero, List.set_cons_succ]); go_big_quiet_on) | (go_big_quiet_op; first | go_big_quiet_on | go_big_quiet_call (fail))))
                  refine wpQuiet_nil ?_
                  intro _ hw'
                  obtain ⟨pq, hw''⟩ := hw'
                  subst hw''
                  have ya := ext_regrown wc pq
                  have Ma := Mc.grow ya
                  have x0a := Ma.x0
                  have x1a := Ma.x1
                  have cHa := ya.cell cHc
                  have cEa := ya.cell cEc
                  have hexa := ya.cell hexc
                  have hrxa := rangeAt_ext hrxc ya
                  have cRa := rangeAt_ext cRc ya
                  clear z0 z1 z2 z3 z4 x0c x1c cHc cEc hexc hrxc cRc ya Mc
                  generalize grow (redrawn wc pq.d) pq.os = wa at *
                  go_wp2
                  have z0 := fun p => cell_in x0a p
                  have z1 := fun p => cell_in x1a p
                  have z2 := fun p => cell_in cHa p
                  have z3 := fun p => cell_in cEa p
                  have z4 := fun p => cell_in hexa p
                  refine wp_region_quiet_below (by kernel_rfl) (by kernel_rfl) ?_
                  repeat (first | go_big_quiet_skip | (go_big_quiet_want; first | ((fail); (try simp only [Act.put, List.setIfInBounds_toArray, List.set_cons_zero, List.set_cons_succ]); go_big_quiet_on) | (go_big_quiet_op; first | go_big_quiet_on | go_big_quiet_call (fail))))
                  refine wpQuiet_nil ?_
                  intro _ hw'
                  obtain ⟨pq, hw''⟩ := hw'
                  subst hw''
                  have yb := ext_regrown wa pq
                  have Mb := Ma.grow yb
                  have x0b := Mb.x0
                  have x1b := Mb.x1
                  have cHb := yb.cell cHa
                  have cEb := yb.cell cEa
                  have hexb := yb.cell hexa
                  have hrxb := rangeAt_ext hrxa yb
                  have cRb := rangeAt_ext cRa yb
                  clear z0 z1 z2 z3 z4 x0a x1a cHa cEa hexa hrxa cRa yb Ma
                  generalize grow (redrawn wa pq.d) pq.os = wb at *
                  go_wp2
                  refine wp_region_still_tail 9 (by kernel_rfl) (by kernel_rfl) ?_
                  simp only [List.take_succ_cons, List.take_zero, List.drop_succ_cons, List.drop_zero]
                  have kd : Ext wb wb.drew := (Ext.refl _).drew
                  have Md := Mb.grow kd
                  have hrxd := rangeAt_ext hrxb kd
                  have hexd := kd.cell hexb
                  change wpStill _ _ wb.drew _ _ _
                  repeat (first | (refine wpStill_step (fun K hK => ?_); refine still_load (by rfl) 32 _ rfl _ _ rfl (rootC r) _ hrxd Try.underlying32 rfl hi32 ?_; (try simp only [Act.put, List.setIfInBounds_toArray, List.set_cons_zero, List.set_cons_succ]); refine hK _ ?_; clear hK K) | (refine wpStill_step (fun K hK => ?_); refine still_build (by rfl) 34 _ rfl X.cells.toArray (by simp [go_sem]; exact hbu) ?_; (try simp only [Act.put, List.setIfInBounds_toArray, List.set_cons_zero, List.set_cons_succ]); refine hK _ ?_; clear hK K) | still_step)
                  try refine wpStill_nil ?_
                  show wpList _ _ _ _ _ wb.drew
                  have hthere : wb.drew.there (Bv + 1) 0 X.cells.toArray.size := by rw [List.size_toArray, Lat.len hXok]; exact Md.wt
                  have Mf := Md.setW hXok (y := X) (by omega) hne2 (by omega)
                  clear hrxd hexd hrxb hexb cRb cHb cEb x0b x1b Mb Md
                  generalize wb.drew = wd at hthere Mf ⊢
                  go_wp2_with (refine wpList_store_mid rfl 34 _ _ rfl (Bv + 1) 0 X.cells.toArray rfl rfl hthere hX34 (all_oneCell_toArray (Lat.one X)) ?_; rw [List.toList_toArray]; generalize wd.setCells (Bv + 1) 0 X.cells = wf at Mf ⊢)
                  have ho2 : 0 < 18446744073709551616 := by
                    rw [PZ.out]
                    have := Nat.pow_lt_pow_right (a := 2) (by omega) (show k < 64 by omega)
                    split <;> omega
                  obtain ⟨ab, ao, eA, hrL, hokL⟩ := Mf.vl.at' hk
                  rw [PZ.at_] at hrL hokL
                  have hmv := fun W (kx : Ext wf W) => vmay_any A3 m c3 0 ho2 _ W (Mf.vl.ext kx)
                  rw [PZ.may] at hmv
                  have HMV := Lib.hid hmv
                  have hrW := Mf.wr
                  have hi34 : (Try.prog.info? 34).map (·.size) = some X.cells.length := by rw [Lat.len hokL]; kernel_rfl
                  have hqq : ∀ W, (binOp .neq 34 (.agg X.cells.toArray) (.agg X.cells.toArray)).run Try.prog W = .ok (.bool false) W := fun W => Lat.neq hokL hokL (b := true) (by simp) W
                  have x0 := Mf.x0
                  have x1 := Mf.x1
                  have hMZ := Lib.hid Mf
                  have HPZ := Lib.hid PZ
                  clear Mf PZ hmv
                  subst eA
                  have z0 := fun p => cell_in x0 p
                  have z1 := fun p => cell_in x1 p
                  refine wp_region_quiet_below (by kernel_rfl) (by kernel_rfl) ?_
                  repeat (first | go_big_quiet_skip | (go_big_quiet_want; first | ((first | (refine quiet_load_mid 34 _ rfl _ _ rfl X.cells _ (fun W ⟨p, hp⟩ => hp ▸ rangeAt_ext hrL (ext_regrown _ p)) Try.underlying34 rfl hi34 ?_) | (refine quiet_load_mid 34 _ rfl _ _ rfl X.cells _ (fun W ⟨p, hp⟩ => hp ▸ rangeAt_ext hrW (ext_regrown _ p)) Try.underlying34 rfl hi34 ?_)); (try simp only [Act.put, List.setIfInBounds_toArray, List.set_cons_zero, List.set_cons_succ]); go_big_quiet_on) | (go_big_quiet_op; first | go_big_quiet_on | go_big_quiet_call ((go_at_call 12; exact regrown_ext (HMV.out _ (ext_regrown _ _)))))))
                  refine wpQuiet_nil ?_
                  intro _ hw'
                  obtain ⟨pq, hw''⟩ := hw'
                  subst hw''
                  have MG := hMZ.out.grow (ext_regrown wf pq)
                  have x0g := MG.x0
                  have x1g := MG.x1
                  have hv0 := MG.v0
                  have hv1 := MG.v1
                  have hvf := MG.vf
                  obtain ⟨u0, hu0⟩ := hv0
                  obtain ⟨u1, hu1⟩ := hv1
                  have HMG := Lib.hid MG
                  clear z0 z1 hrL hrW x0 x1 hMZ MG
                  generalize grow (redrawn wf pq.d) pq.os = wg at *
                  go_wp2
                  go_roundg g
                  case measure => omega
                  case rel =>
                    have hset := HMG.out.setV hb0 (by omega)
                    exact ⟨j + 1, _, _, _, _, _, _, by omega, by first | rfl | go_num, rfl, hset, HPZ.out⟩
                · subst heq1
                  by_cases hroot : xr = r
                  · have hstep : (LS2, o2, kk, (0 : Int)) = (LS, 0, 0, 0) := by
                      rw [← HPV.out]
                      exact step_old P.may hkl P.at_ (by simp) rfl (.inr ⟨rfl, hroot⟩)
                    obtain ⟨rfl, rfl, rfl, _⟩ : LS2 = LS ∧ o2 = 0 ∧ kk = 0 ∧ (0 : Int) = 0 := by simpa using hstep
                    have PZ := P
                    obtain ⟨X, hX⟩ : ∃ X : Lat, (⟨true, xr, xe⟩ : Lat) = X := ⟨_, rfl⟩
                    have ge1 : ((xe : Int) == xe) = true := by simp
                    have ge2 : decide ((xe : Int) < xe) = false := decide_eq_false (by omega)
                    have ge3 : decide (xe < xe) = false := decide_eq_false (by omega)
                    have hnq : ∀ W, (binOp .neq 32 (.agg (rootC xr).toArray) (.agg (rootC r).toArray)).run Try.prog W = .ok (.bool false) W := fun W => root_neq hxok.1 hrok (b := true) (by simp [hroot]) W
                    clear hstep HPV HPP P hroot
                    go_wp2
                    have z0 := fun p => cell_in x0c p
                    have z1 := fun p => cell_in x1c p
                    have z2 := fun p => cell_in cHc p
                    have z3 := fun p => cell_in cEc p
                    have z4 := fun p => cell_in hexc p
                    refine wp_region_quiet_below (by kernel_rfl) (by kernel_rfl) ?_
                    repeat (first | go_big_quiet_skip | (go_big_quiet_want; first | ((first | (refine quiet_load_mid 32 _ rfl _ _ rfl (rootC xr) _ (fun W ⟨p, hp⟩ => hp ▸ rangeAt_ext cRc (ext_regrown _ p)) Try.underlying32 rfl hx32 ?_) | (refine quiet_load_mid 32 _ rfl _ _ rfl (rootC r) _ (fun W ⟨p, hp⟩ => hp ▸ rangeAt_ext hrxc (ext_regrown _ p)) Try.underlying32 rfl hi32 ?_)); (try simp only [Act.put, List.setIfInBounds_toArray, List.set_cons_zero, List.set_cons_succ]); go_big_quiet_on) | (go_big_quiet_op; first | go_big_quiet_on | go_big_quiet_call (fail))))
                    refine wpQuiet_nil ?_
                    intro _ hw'
                    obtain ⟨pq, hw''⟩ := hw'
                    subst hw''
                    have ya := ext_regrown wc pq
                    have Ma := Mc.grow ya
                    have x0a := Ma.x0
                    have x1a := Ma.x1
                    have cHa := ya.cell cHc
                    have cEa := ya.cell cEc
                    have hexa := ya.cell hexc
                    have hrxa := rangeAt_ext hrxc ya
                    have cRa := rangeAt_ext cRc ya
                    clear z0 z1 z2 z3 z4 x0c x1c cHc cEc hexc hrxc cRc ya Mc
                    generalize grow (redrawn wc pq.d) pq.os = wa at *
                    go_wp2
                    have z0 := fun p => cell_in x0a p
                    have z1 := fun p => cell_in x1a p
                    have z2 := fun p => cell_in cHa p
                    have z3 := fun p => cell_in cEa p
                    have z4 := fun p => cell_in hexa p
                    refine wp_region_quiet_below (by kernel_rfl) (by kernel_rfl) ?_
                    repeat (first | go_big_quiet_skip | (go_big_quiet_want; first | ((fail); (try simp only [Act.put, List.setIfInBounds_toArray, List.set_cons_zero, List.set_cons_succ]); go_big_quiet_on) | (go_big_quiet_op; first | go_big_quiet_on | go_big_quiet_call (fail))))
                    refine wpQuiet_nil ?_
                    intro _ hw'
                    obtain ⟨pq, hw''⟩ := hw'
                    subst hw''
                    have yb := ext_regrown wa pq
                    have Mb := Ma.grow yb
                    have x0b := Mb.x0
                    have x1b := Mb.x1
                    have cHb := yb.cell cHa
                    have cEb := yb.cell cEa
                    have hexb := yb.cell hexa
                    have hrxb := rangeAt_ext hrxa yb
                    have cRb := rangeAt_ext cRa yb
                    clear z0 z1 z2 z3 z4 x0a x1a cHa cEa hexa hrxa cRa yb Ma
                    generalize grow (redrawn wa pq.d) pq.os = wb at *
                    go_wp2
                    clear hrxb cRb cHb cEb hexb
                    rw [hX] at PZ Mb
                    clear hX
                    have ho2 : 0 < 18446744073709551616 := by
                      rw [PZ.out]
                      have := Nat.pow_lt_pow_right (a := 2) (by omega) (show k < 64 by omega)
                      split <;> omega
                    obtain ⟨ab, ao, eA, hrL, hokL⟩ := Mb.vl.at' hk
                    rw [PZ.at_] at hrL hokL
                    have hmv := fun W (kx : Ext wb W) => vmay_any A3 m c3 0 ho2 _ W (Mb.vl.ext kx)
                    rw [PZ.may] at hmv
                    have HMV := Lib.hid hmv
                    have hrW := Mb.wr
                    have hi34 : (Try.prog.info? 34).map (·.size) = some X.cells.length := by rw [Lat.len hokL]; kernel_rfl
                    have hqq : ∀ W, (binOp .neq 34 (.agg X.cells.toArray) (.agg X.cells.toArray)).run Try.prog W = .ok (.bool false) W := fun W => Lat.neq hokL hokL (b := true) (by simp) W
                    have x0 := Mb.x0
                    have x1 := Mb.x1
                    have hMZ := Lib.hid Mb
                    have HPZ := Lib.hid PZ
                    clear Mb PZ hmv
                    subst eA
                    have z0 := fun p => cell_in x0 p
                    have z1 := fun p => cell_in x1 p
                    refine wp_region_quiet_below (by kernel_rfl) (by kernel_rfl) ?_
                    repeat (first | go_big_quiet_skip | (go_big_quiet_want; first | ((first | (refine quiet_load_mid 34 _ rfl _ _ rfl X.cells _ (fun W ⟨p, hp⟩ => hp ▸ rangeAt_ext hrL (ext_regrown _ p)) Try.underlying34 rfl hi34 ?_) | (refine quiet_load_mid 34 _ rfl _ _ rfl X.cells _ (fun W ⟨p, hp⟩ => hp ▸ rangeAt_ext hrW (ext_regrown _ p)) Try.underlying34 rfl hi34 ?_)); (try simp only [Act.put, List.setIfInBounds_toArray, List.set_cons_zero, List.set_cons_succ]); go_big_quiet_on) | (go_big_quiet_op; first | go_big_quiet_on | go_big_quiet_call ((go_at_call 12; exact regrown_ext (HMV.out _ (ext_regrown _ _)))))))
                    refine wpQuiet_nil ?_
                    intro _ hw'
                    obtain ⟨pq, hw''⟩ := hw'
                    subst hw''
                    have MG := hMZ.out.grow (ext_regrown wb pq)
                    have x0g := MG.x0
                    have x1g := MG.x1
                    have hv0 := MG.v0
                    have hv1 := MG.v1
                    have hvf := MG.vf
                    obtain ⟨u0, hu0⟩ := hv0
                    obtain ⟨u1, hu1⟩ := hv1
                    have HMG := Lib.hid MG
                    clear z0 z1 hrL hrW x0 x1 hMZ MG
                    generalize grow (redrawn wb pq.d) pq.os = wg at *
                    go_wp2
                    go_roundg g
                    case measure => omega
                    case rel =>
                      have hset := HMG.out.setV hb0 (by omega)
                      exact ⟨j + 1, _, _, _, _, _, _, by omega, by first | rfl | go_num, rfl, hset, HPZ.out⟩
                  · have hstep : (LS2, o2, kk, (0 : Int)) = (LS.set k Lat.none, 0 ||| 2 ^ k, 2, 0) := by
                      rw [← HPV.out]
                      exact step_twice P.may hkl P.at_ (by simp) rfl rfl hroot
                    rw [Nat.zero_or] at hstep
                    obtain ⟨hL2, ho2e, rfl, _⟩ : LS2 = LS.set k Lat.none ∧ o2 = 2 ^ k ∧ kk = 2 ∧ (0 : Int) = 0 := by simpa using hstep
                    have PZ : LatP LS2 o2 Lat.none true k m := ⟨by rw [hL2, ho2e]; have := may_twice P.may hkl; rwa [Nat.zero_or] at this, by rw [hL2, List.length_set]; exact hklen, by rw [hL2, getD_set _ _ _ _ hkl, if_pos rfl], by rw [ho2e, if_pos rfl], Lat.none_ok⟩
                    have gpos := Nat.two_pow_pos k
                    have gout : (0 : Int) < o2 := by omega
                    have gout2 : 0 < o2 := by omega
                    have gout3 : decide ((0 : Int) < o2) = true := decide_eq_true gout
                    have gout4 : decide (0 < o2) = true := decide_eq_true gout2
                    have ge1 : ((xe : Int) == xe) = true := by simp
                    have hnq : ∀ W, (binOp .neq 32 (.agg (rootC xr).toArray) (.agg (rootC r).toArray)).run Try.prog W = .ok (.bool true) W := fun W => root_neq hxok.1 hrok (b := false) (by simp [hroot]) W
                    have hz34 : (Try.prog.info? 34).map (·.size) = some (Lat.cells Lat.none).toArray.size := by kernel_rfl
                    clear hstep HPV HPP P hroot hL2 ho2e
                    go_wp2
                    have z0 := fun p => cell_in x0c p
                    have z1 := fun p => cell_in x1c p
                    have z2 := fun p => cell_in cHc p
                    have z3 := fun p => cell_in cEc p
                    have z4 := fun p => cell_in hexc p
                    refine wp_region_quiet_below (by kernel_rfl) (by kernel_rfl) ?_
                    repeat (first | go_big_quiet_skip | (go_big_quiet_want; first | ((first | (refine quiet_load_mid 32 _ rfl _ _ rfl (rootC xr) _ (fun W ⟨p, hp⟩ => hp ▸ rangeAt_ext cRc (ext_regrown _ p)) Try.underlying32 rfl hx32 ?_) | (refine quiet_load_mid 32 _ rfl _ _ rfl (rootC r) _ (fun W ⟨p, hp⟩ => hp ▸ rangeAt_ext hrxc (ext_regrown _ p)) Try.underlying32 rfl hi32 ?_)); (try simp only [Act.put, List.setIfInBounds_toArray, List.set_cons_zero, List.set_cons_succ]); go_big_quiet_on) | (go_big_quiet_op; first | go_big_quiet_on | go_big_quiet_call (fail))))
                    refine wpQuiet_nil ?_
                    intro _ hw'
                    obtain ⟨pq, hw''⟩ := hw'
                    subst hw''
                    have ya := ext_regrown wc pq
                    have Ma := Mc.grow ya
                    have x0a := Ma.x0
                    have x1a := Ma.x1
                    have cHa := ya.cell cHc
                    have cEa := ya.cell cEc
                    have hexa := ya.cell hexc
                    have hrxa := rangeAt_ext hrxc ya
                    have cRa := rangeAt_ext cRc ya
                    clear z0 z1 z2 z3 z4 x0c x1c cHc cEc hexc hrxc cRc ya Mc
                    generalize grow (redrawn wc pq.d) pq.os = wa at *
                    have hthere : wa.there (Bv + 1) 0 (Lat.cells Lat.none).toArray.size := Ma.wt
                    have Mf := Ma.setW Lat.none_ok (y := Lat.none) (by omega) hne2 (by omega)
                    clear hrxa cRa cHa cEa hexa x0a x1a Ma
                    go_wp2_with (refine wpList_store_mid rfl 34 _ _ rfl (Bv + 1) 0 (Lat.cells Lat.none).toArray rfl rfl hthere hz34 (all_oneCell_toArray (Lat.one _)) ?_; rw [List.toList_toArray]; generalize wa.setCells (Bv + 1) 0 (Lat.cells Lat.none) = wf at Mf ⊢)
                    obtain ⟨X, hX⟩ : ∃ X : Lat, Lat.none = X := ⟨_, rfl⟩
                    rw [hX] at PZ Mf
                    have ho2 : o2 < 18446744073709551616 := by
                      rw [PZ.out]
                      have := Nat.pow_lt_pow_right (a := 2) (by omega) (show k < 64 by omega)
                      split <;> omega
                    obtain ⟨ab, ao, eA, hrL, hokL⟩ := Mf.vl.at' hk
                    rw [PZ.at_] at hrL hokL
                    have hmv := fun W (kx : Ext wf W) => vmay_any A3 m c3 o2 ho2 _ W (Mf.vl.ext kx)
                    rw [PZ.may] at hmv
                    have HMV := Lib.hid hmv
                    have hrW := Mf.wr
                    have hi34 : (Try.prog.info? 34).map (·.size) = some X.cells.length := by rw [Lat.len hokL]; kernel_rfl
                    have hqq : ∀ W, (binOp .neq 34 (.agg X.cells.toArray) (.agg X.cells.toArray)).run Try.prog W = .ok (.bool false) W := fun W => Lat.neq hokL hokL (b := true) (by simp) W
                    have x0 := Mf.x0
                    have x1 := Mf.x1
                    have hMZ := Lib.hid Mf
                    have HPZ := Lib.hid PZ
                    clear Mf PZ hmv
                    subst eA
                    have z0 := fun p => cell_in x0 p
                    have z1 := fun p => cell_in x1 p
                    refine wp_region_quiet_below (by kernel_rfl) (by kernel_rfl) ?_
                    repeat (first | go_big_quiet_skip | (go_big_quiet_want; first | ((first | (refine quiet_load_mid 34 _ rfl _ _ rfl X.cells _ (fun W ⟨p, hp⟩ => hp ▸ rangeAt_ext hrL (ext_regrown _ p)) Try.underlying34 rfl hi34 ?_) | (refine quiet_load_mid 34 _ rfl _ _ rfl X.cells _ (fun W ⟨p, hp⟩ => hp ▸ rangeAt_ext hrW (ext_regrown _ p)) Try.underlying34 rfl hi34 ?_)); (try simp only [Act.put, List.setIfInBounds_toArray, List.set_cons_zero, List.set_cons_succ]); go_big_quiet_on) | (go_big_quiet_op; first | go_big_quiet_on | go_big_quiet_call ((go_at_call 12; exact regrown_ext (HMV.out _ (ext_regrown _ _)))))))
                    refine wpQuiet_nil ?_
                    intro _ hw'
                    obtain ⟨pq, hw''⟩ := hw'
                    subst hw''
                    have MG := hMZ.out.grow (ext_regrown wf pq)
                    have x0g := MG.x0
                    have x1g := MG.x1
                    have hv0 := MG.v0
                    have hv1 := MG.v1
                    have hvf := MG.vf
                    obtain ⟨u0, hu0⟩ := hv0
                    obtain ⟨u1, hu1⟩ := hv1
                    have HMG := Lib.hid MG
                    clear z0 z1 hrL hrW x0 x1 hMZ MG
                    generalize grow (redrawn wf pq.d) pq.os = wg at *
                    go_wp2
                    go_roundg g
                    case measure => omega
                    case rel =>
                      have hset := HMG.out.setV hb0 (by omega)
                      exact ⟨j + 1, _, _, _, _, _, _, by omega, by first | rfl | go_num, rfl, hset, HPZ.out⟩
                · have hstep : (LS2, o2, kk, (0 : Int)) = (LS, 0, 0, 0) := by
                    rw [← HPV.out]
                    exact step_old P.may hkl P.at_ (by simp) rfl (.inl hgt1)
                  obtain ⟨rfl, rfl, rfl, _⟩ : LS2 = LS ∧ o2 = 0 ∧ kk = 0 ∧ (0 : Int) = 0 := by simpa using hstep
                  have PZ := P
                  obtain ⟨X, hX⟩ : ∃ X : Lat, (⟨true, xr, xe⟩ : Lat) = X := ⟨_, rfl⟩
                  have ge1 : ((xe : Int) == e) = false := by first | (simp; done) | (simp; omega)
                  have ge2 : ¬ (xe : Int) < e := by omega
                  have ge3 : decide (xe < e) = false := decide_eq_false (by omega)
                  clear hstep HPV HPP P hgt1
                  go_wp2
                  have z0 := fun p => cell_in x0c p
                  have z1 := fun p => cell_in x1c p
                  have z2 := fun p => cell_in cHc p
                  have z3 := fun p => cell_in cEc p
                  have z4 := fun p => cell_in hexc p
                  refine wp_region_quiet_below (by kernel_rfl) (by kernel_rfl) ?_
                  repeat (first | go_big_quiet_skip | (go_big_quiet_want; first | ((fail); (try simp only [Act.put, List.setIfInBounds_toArray, List.set_cons_zero, List.set_cons_succ]); go_big_quiet_on) | (go_big_quiet_op; first | go_big_quiet_on | go_big_quiet_call (fail))))
                  refine wpQuiet_nil ?_
                  intro _ hw'
                  obtain ⟨pq, hw''⟩ := hw'
                  subst hw''
                  have ya := ext_regrown wc pq
                  have Ma := Mc.grow ya
                  have x0a := Ma.x0
                  have x1a := Ma.x1
                  have cHa := ya.cell cHc
                  have cEa := ya.cell cEc
                  have hexa := ya.cell hexc
                  have hrxa := rangeAt_ext hrxc ya
                  have cRa := rangeAt_ext cRc ya
                  clear z0 z1 z2 z3 z4 x0c x1c cHc cEc hexc hrxc cRc ya Mc
                  generalize grow (redrawn wc pq.d) pq.os = wa at *
                  go_wp2
                  have z0 := fun p => cell_in x0a p
                  have z1 := fun p => cell_in x1a p
                  have z2 := fun p => cell_in cHa p
                  have z3 := fun p => cell_in cEa p
                  have z4 := fun p => cell_in hexa p
                  refine wp_region_quiet_below (by kernel_rfl) (by kernel_rfl) ?_
                  repeat (first | go_big_quiet_skip | (go_big_quiet_want; first | ((fail); (try simp only [Act.put, List.setIfInBounds_toArray, List.set_cons_zero, List.set_cons_succ]); go_big_quiet_on) | (go_big_quiet_op; first | go_big_quiet_on | go_big_quiet_call (fail))))
                  refine wpQuiet_nil ?_
                  intro _ hw'
                  obtain ⟨pq, hw''⟩ := hw'
                  subst hw''
                  have yb := ext_regrown wa pq
                  have Mb := Ma.grow yb
                  have x0b := Mb.x0
                  have x1b := Mb.x1
                  have cHb := yb.cell cHa
                  have cEb := yb.cell cEa
                  have hexb := yb.cell hexa
                  have hrxb := rangeAt_ext hrxa yb
                  have cRb := rangeAt_ext cRa yb
                  clear z0 z1 z2 z3 z4 x0a x1a cHa cEa hexa hrxa cRa yb Ma
                  generalize grow (redrawn wa pq.d) pq.os = wb at *
                  go_wp2
                  clear hrxb cRb cHb cEb hexb
                  rw [hX] at PZ Mb
                  clear hX
                  have ho2 : 0 < 18446744073709551616 := by
                    rw [PZ.out]
                    have := Nat.pow_lt_pow_right (a := 2) (by omega) (show k < 64 by omega)
                    split <;> omega
                  obtain ⟨ab, ao, eA, hrL, hokL⟩ := Mb.vl.at' hk
                  rw [PZ.at_] at hrL hokL
                  have hmv := fun W (kx : Ext wb W) => vmay_any A3 m c3 0 ho2 _ W (Mb.vl.ext kx)
                  rw [PZ.may] at hmv
                  have HMV := Lib.hid hmv
                  have hrW := Mb.wr
                  have hi34 : (Try.prog.info? 34).map (·.size) = some X.cells.length := by rw [Lat.len hokL]; kernel_rfl
                  have hqq : ∀ W, (binOp .neq 34 (.agg X.cells.toArray) (.agg X.cells.toArray)).run Try.prog W = .ok (.bool false) W := fun W => Lat.neq hokL hokL (b := true) (by simp) W
                  have x0 := Mb.x0
                  have x1 := Mb.x1
                  have hMZ := Lib.hid Mb
                  have HPZ := Lib.hid PZ
                  clear Mb PZ hmv
                  subst eA
                  have z0 := fun p => cell_in x0 p
                  have z1 := fun p => cell_in x1 p
                  refine wp_region_quiet_below (by kernel_rfl) (by kernel_rfl) ?_
                  repeat (first | go_big_quiet_skip | (go_big_quiet_want; first | ((first | (refine quiet_load_mid 34 _ rfl _ _ rfl X.cells _ (fun W ⟨p, hp⟩ => hp ▸ rangeAt_ext hrL (ext_regrown _ p)) Try.underlying34 rfl hi34 ?_) | (refine quiet_load_mid 34 _ rfl _ _ rfl X.cells _ (fun W ⟨p, hp⟩ => hp ▸ rangeAt_ext hrW (ext_regrown _ p)) Try.underlying34 rfl hi34 ?_)); (try simp only [Act.put, List.setIfInBounds_toArray, List.set_cons_zero, List.set_cons_succ]); go_big_quiet_on) | (go_big_quiet_op; first | go_big_quiet_on | go_big_quiet_call ((go_at_call 12; exact regrown_ext (HMV.out _ (ext_regrown _ _)))))))
                  refine wpQuiet_nil ?_
                  intro _ hw'
                  obtain ⟨pq, hw''⟩ := hw'
                  subst hw''
                  have MG := hMZ.out.grow (ext_regrown wb pq)
                  have x0g := MG.x0
                  have x1g := MG.x1
                  have hv0 := MG.v0
                  have hv1 := MG.v1
                  have hvf := MG.vf
                  obtain ⟨u0, hu0⟩ := hv0
                  obtain ⟨u1, hu1⟩ := hv1
                  have HMG := Lib.hid MG
                  clear z0 z1 hrL hrW x0 x1 hMZ MG
                  generalize grow (redrawn wb pq.d) pq.os = wg at *
                  go_wp2
                  go_roundg g
                  case measure => omega
                  case rel =>
                    have hset := HMG.out.setV hb0 (by omega)
                    exact ⟨j + 1, _, _, _, _, _, _, by omega, by first | rfl | go_num, rfl, hset, HPZ.out⟩
        | zero =>
          have ej : j = rn := by omega
          subst ej
          have kx := M.ext
          clear M P
          go_wp2
          go_ret
          exact ⟨rfl, kx⟩
    · have gl : ((rn : Int) != en) = true := by simp; omega
      clear hR hE
      go_enter Try.func3, Try.ntmps3
      go_wp2_with fail
      refine (HA.out _).mono ?_
      rintro e1 w1 ⟨rfl, hx1⟩
      have k1 : Ext w w1 := Ext.trans ((by repeat (first | assumption | exact Ext.refl _ | refine Ext.alloc ?_ _ | refine Ext.drew ?_ | refine Ext.drewN ?_ _ | refine Ext.setCell ?_ (by first | (simp; done) | omega | (simp; omega)) _ | refine Ext.trans (by assumption) ?_))) hx1
      go_wp2_with fail
      refine (HN.out _).mono ?_
      rintro e2 w2 ⟨⟨A, m, c, rfl, h⟩, hx2⟩
      have k2 : Ext w1 w2 := Ext.trans ((by repeat (first | assumption | exact Ext.refl _ | refine Ext.alloc ?_ _ | refine Ext.drew ?_ | refine Ext.drewN ?_ _ | refine Ext.setCell ?_ (by first | (simp; done) | omega | (simp; omega)) _ | refine Ext.trans (by assumption) ?_))) hx2
      go_wp2
      go_ret
      exact ⟨rfl, (by repeat (first | assumption | exact Ext.refl _ | refine Ext.alloc ?_ _ | refine Ext.drew ?_ | refine Ext.drewN ?_ _ | refine Ext.setCell ?_ (by first | (simp; done) | omega | (simp; omega)) _ | refine Ext.trans (by assumption) ?_))⟩
set_option maxRecDepth 100000 in
theorem VoteLatest_lifted (os : Os) (started : os.Started) (H : Type) (enc : TypeId × Value → H) :
    ReturnsInHanded {} Try.checked os 3 .any (Rows.voteLatestSpec.pre6 enc Try.prog Try.f3 Rows.voteLatestRow.domain false) (Rows.voteLatestSpec.post enc Try.prog Try.f3 false true false false) := by
  refine returnsInHanded_of_change_sized (C := Try.checked) own started (by kernel_rfl) Try.func3
    (ChangeSpec.witness6 (enc := enc) (C := Try.checked) false ⟨#[], #[.int .i64 0, .int .i64 0, .slice none 0 0, .slice none 0 0], []⟩ 8 (by kernel_rfl) (by kernel_rfl) (by kernel_rfl) (by kernel_rfl)) ?_
  intro W base args ds gs before hval0 hW _hcnd hsz0 _
  have hval : ∀ (j : Nat) t v, Try.f3.params[j]? = some t → args[j]? = some v → Value.okWide Try.prog W .any base t v := hval0
  have hsz : (DataW.weightsEach Try.prog (Try.f3.params.toList ++ Rows.voteLatestSpec.plain.varTypes Try.prog) (ds ++ gs)).all (· ≤ reachBytes) = true := hsz0
  have hW' := hW
  obtain ⟨p, q, hA0, hV, rfl, hfz, hnd⟩ := hW
  have hA : DataW.TrodAll enc Try.prog W 0 (fun _ => true) true Try.f3.params.toList args.toList ds p := hA0
  rw [Try.params3] at hA hval hsz
  obtain ⟨v0, vs0, d0, ds0, p0, q0, hargs, rfl, rfl, h0, r0⟩ := trodAll_cons hA
  obtain ⟨v1, vs1, d1, ds1, p1, q1, rfl, rfl, rfl, h1, r1⟩ := trodAll_cons r0
  obtain ⟨v2, vs2, d2, ds2, p2, q2, rfl, rfl, rfl, h2, r2⟩ := trodAll_cons r1
  obtain ⟨v3, vs3, d3, ds3, p3, q3, rfl, rfl, rfl, h3, r3⟩ := trodAll_cons r2
  obtain ⟨rfl, rfl, rfl⟩ := trodAll_nil r3
  obtain rfl : args = #[v0, v1, v2, v3] := by cases args; simp_all
  obtain ⟨rfl, rfl⟩ := trodVars_none hV
  have h0k := h0
  have h1k := h1
  have h2k := h2
  have h3k := h3
  have hlt0 : ∀ x ∈ p0, x.block < W.heap.size := fun x hx => by have := hW'.lt x (by simp [hx]); simpa using this
  have hlt1 : ∀ x ∈ p1, x.block < W.heap.size := fun x hx => by have := hW'.lt x (by simp [hx]); simpa using this
  have hlt2 : ∀ x ∈ p2, x.block < W.heap.size := fun x hx => by have := hW'.lt x (by simp [hx]); simpa using this
  have hlt3 : ∀ x ∈ p3, x.block < W.heap.size := fun x hx => by have := hW'.lt x (by simp [hx]); simpa using this
  obtain ⟨n, rfl, hn1, hn2⟩ := open_I64 Try.underlying3 (hval 0 3 v0 rfl rfl) h0
  obtain ⟨val, rfl, hval1, hval2⟩ := open_I64 Try.underlying3 (hval 1 3 v1 rfl rfl) h1
  obtain ⟨rootsA, rootsn, rootsc, roots, rfl, hroots⟩ := open_roots (hval 2 22 v2 rfl rfl) h2 hsz (j := 2) rfl rfl
  obtain ⟨epochs, epochsA, epochsn, epochsc, rfl, hepochs⟩ := open_Ints Try.underlying23 Try.underlying26 (by kernel_rfl) (by kernel_rfl) (hval 3 23 v3 rfl rfl) h3 hsz (j := 3) rfl rfl
  clear hA0 hval0
  simp only [List.append_nil] at hW'
  refine (VoteLatest_walk n hn1 hn2 val hval1 hval2 rootsA rootsn rootsc roots hroots epochsA epochsn epochsc epochs hepochs (w := W)).mono fun e W' ⟨he, hg⟩ => ?_
  subst he
  exact ⟨_, rfl, post_law (pa := p0 ++ (p1 ++ (p2 ++ (p3 ++ [])))) (pv := []) hW' (fun _ _ _ => (trodAll_cons_mk (shut_bool Try.underlying4 _) trodAll_mk0))
    (trodAll_cons_mk (Below.trod laidOut (by kernel_rfl) (of_decide_eq_true (by kernel_rfl)) h0k hg.out hlt0) (trodAll_cons_mk (Below.trod laidOut (by kernel_rfl) (of_decide_eq_true (by kernel_rfl)) h1k hg.out hlt1) (trodAll_cons_mk (Below.trod laidOut (by kernel_rfl) (of_decide_eq_true (by kernel_rfl)) h2k hg.out hlt2) (trodAll_cons_mk (Below.trod laidOut (by kernel_rfl) (of_decide_eq_true (by kernel_rfl)) h3k hg.out hlt3) trodAll_mk0)))) rfl (by simp) hg⟩
theorem VoteLatest_holds : Rows.VoteLatestSaid :=
  OpenClaim.holds_of_wide 3 Try.f3 rfl rfl rfl rfl rfl rfl rfl ⟨rfl, rfl, rfl, rfl, rfl⟩ rfl rfl rfl rfl rfl (by kernel_rfl) Try.func3 (by kernel_rfl)
    (of_decide_eq_true (by kernel_rfl)) (by unfold Func.isWrapper; first | (rw [if_pos (by decide +kernel)]; kernel_rfl) | (rw [if_neg (by decide +kernel)]; exact ⟨rfl, rfl⟩))
    (fun os started H enc _ => VoteLatest_lifted os started H enc)
#print axioms VoteLatest_holds
end Go.Proofs.Ytnpopepannimiaa
