/- TreeInsert: what is put is found at the end, behind its parent, all others stay, and put again it is known; for every tree and block. -/
import Derived.Test.YtoifhpcpahfddaaTreeLast
namespace Go.Proofs.Ytoifhpcpahfddaa
open Go.RowKit Go.WideShapes Go.ChangeShapes Go.Sort
set_option linter.unusedVariables false
set_option linter.unusedSimpArgs false
set_option linter.unusedSectionVars false






section
variable {P : Program}
/-- A wide load that a guard lets by, in a plain region. -/
theorem wpList_load_grd {ops : Array Oper} {rest : List Oper} {op : Oper} {a : Act} {w : World} {Q : Exit → Act → World → Prop} (hw : Region.wanted op (yielded ops a.tmps) = true) (ty : TypeId) (x : Operand) (ho : op.op = .load ty x)
    (b o : Nat) (hx : a.eval x = .pointer (some ⟨b, o, none⟩)) (cs : List Value) (d : TypeDesc) (hc : w.rangeAt b o cs)
    (hu : P.underlying ty = some d) (hd : d.isRow = true) (hi : (P.info? ty).map (·.size) = some cs.length)
    (h : wpList P ops Q rest (a.put op.dst (.agg cs.toArray)) w) : wpList P ops Q (op :: rest) a w :=
  wpList_step fun K hK => by
    rw [if_pos hw]
    exact wp_load_mid ty x ho b o hx cs d hc hu hd hi (hK _ _ h)
end
set_option maxRecDepth 100000 in
set_option maxHeartbeats 4000000 in
theorem TreeInsert_walk {w : World} (tA : Option Addr) (tn tc : Nat) (t : List Node) (ht : NL w tA tn tc t) (b : Block) (hb : b.Ok) :
    Calls Try.prog 9 #[.agg #[.slice tA tn tc], .agg b.cells.toArray] w fun e' w' => e' = .returned (.bool true) ∧ Ext w w' := by
  have hlen := ht.len
  have hroom := ht.row.room
  have HAW := Lib.hid (fun W => awake_any W)
  have HV := Lib.hid (fun W (k : Ext w W) => ht.ext k)
  have HM := Lib.hid (fun b (hb : Tree.mayV t = b) W (k : Ext w W) => treeMay_is tA tn tc t b hb W (ht.ext k))
  have hb66 : (Try.prog.info? 44).map (·.size) = some b.cells.length := by rw [Block.len hb]; kernel_rfl
  have hu32 : (Try.prog.info? 32).map (·.size) = some (rootC b.up).length := by rw [rootC_len hb.2.1]; kernel_rfl
  have hr32 : (Try.prog.info? 32).map (·.size) = some (rootC b.root).length := by rw [rootC_len hb.1]; kernel_rfl
  have HIN := Lib.hid (fun W (kx : Ext w W) => insert_any tA tn tc t b hb W (ht.ext kx))
  have HBO := Lib.hid hb
  cases hm : Tree.mayV t with
  | false =>
    go_enter Try.func9, Try.ntmps9
    try simp only [List.append_eq, List.cons_append, List.nil_append]
    go_wp2_with fail
    refine (HAW.out _).mono ?_
    rintro e0 w0 ⟨rfl, hx0⟩
    have k0 : Ext w w0 := Ext.trans ((by repeat (first | assumption | exact Ext.refl _ | refine Ext.alloc ?_ _ | refine Ext.drew ?_ | refine Ext.drewN ?_ _ | refine Ext.setCell ?_ (by first | (simp; done) | omega | (simp; omega)) _ | refine Ext.trans (by assumption) ?_))) hx0
    have t0 := hx0.cell (p := ⟨w.heap.size, 0, none⟩) (v := .slice tA tn tc) (by first | (simp; done) | (simp (maxDischargeDepth := 7) [go_sem]; done))
    go_wp2_with fail
    refine (HM.out false hm _ k0).mono ?_
    rintro e1 w1 ⟨rfl, hx1⟩
    have k1 : Ext w w1 := k0.trans hx1
    replace t0 := hx1.cell t0
    go_wp2
    go_ret
    exact ⟨rfl, k1⟩
  | true =>
    by_cases hE : Tree.putE t b = 0
    · obtain ⟨p, hp, hpl, _, hfp, hpar⟩ := Tree.put_p hE
      obtain ⟨_, _, _, _, _, _, hpv⟩ := Tree.put_ok hE
      have h12 := Tree.len_le hm
      rw [hlen] at h12
      have hpm := Tree.put_may hE
      have hplen := Tree.put_len hE
      have hkn := Tree.put_known hE
      have hpf := Tree.put_find hE
      rw [hlen] at hpf
      have HPL := Lib.hid hplen
      have HPM := Lib.hid hpm
      have HKN := Lib.hid hkn
      have HPF := Lib.hid hpf
      have HND := Lib.hid (fun i (hi : i < tn) => (by rw [hpv]; exact Tree.nd_left (by omega) : Tree.nd (Tree.putV t b) i = Tree.nd t i))
      have HNL : Hid (Tree.nd (Tree.putV t b) tn = Tree.putN t b) := by show _ = _; rw [hpv, ← hlen]; exact Tree.nd_last
      have HPAR := Lib.hid hpar
      have HF := Lib.hid (fun W (kx : Ext w W) => find_is tA tn tc t b.up hb.2.1 p hfp W (ht.ext kx))
      rw [hE] at HIN
      clear hE hp hfp hpar hpv hpm hplen hkn hpf ht hb
      go_enter Try.func9, Try.ntmps9
      try simp only [List.append_eq, List.cons_append, List.nil_append]
      go_wp2_with fail
      refine (HAW.out _).mono ?_
      rintro e0 w0 ⟨rfl, hx0⟩
      have k0 : Ext w w0 := Ext.trans ((by repeat (first | assumption | exact Ext.refl _ | refine Ext.alloc ?_ _ | refine Ext.drew ?_ | refine Ext.drewN ?_ _ | refine Ext.setCell ?_ (by first | (simp; done) | omega | (simp; omega)) _ | refine Ext.trans (by assumption) ?_))) hx0
      have t0 := hx0.cell (p := ⟨w.heap.size, 0, none⟩) (v := .slice tA tn tc) (by first | (simp; done) | (simp (maxDischargeDepth := 7) [go_sem]; done))
      have rB0 : w0.rangeAt (w.heap.size + 1) 0 b.cells := rangeAt_ext (range_at (w := w.alloc (.cells #[.slice tA tn tc] 24)) (B := w.heap.size + 1) b.cells 44 (by simp)) hx0
      go_wp2_with fail
      refine (HM.out true hm _ k0).mono ?_
      rintro e1 w1 ⟨rfl, hx1⟩
      have k1 : Ext w w1 := k0.trans hx1
      replace t0 := hx1.cell t0
      clear HAW HM hm
      have rB1 := rangeAt_ext rB0 hx1
      have tl := lt_of_cell t0
      go_wp2_with (refine wpList_load_mid rfl 44 _ rfl _ _ rfl b.cells _ rB1 Try.underlying44 rfl hb66 ?_)
      refine (HIN.out _ k1).mono ?_
      rintro e2 w2 ⟨⟨A2, m, c2, rfl, h2⟩, hx2⟩
      have k2 := k1.trans hx2
      replace t0 := hx2.cell t0
      have rB2 := rangeAt_ext rB1 hx2
      clear rB0 rB1
      replace tl := lt_of_cell t0
      replace tl : w.heap.size < w2.heap.size := tl
      have hm2 := h2.len
      obtain rfl : m = tn + 1 := by rw [← hm2, HPL.out, hlen]
      clear hm2
      have H2 := Lib.hid (fun W (kx : Ext w2 W) => h2.ext kx)
      clear h2
      go_upto_region 7 with fail
      obtain ⟨wb, hwb⟩ : ∃ wb, w2.alloc (.cells #[.slice A2 (tn + 1) c2] 24) = wb := ⟨_, rfl⟩
      have xb : Ext w2 wb := by rw [← hwb]; exact (by repeat (first | assumption | exact Ext.refl _ | refine Ext.alloc ?_ _ | refine Ext.drew ?_ | refine Ext.drewN ?_ _ | refine Ext.setCell ?_ (by first | (simp; done) | omega | (simp; omega)) _ | refine Ext.trans (by assumption) ?_))
      have b0 : wb.cell? ⟨w2.heap.size, 0, none⟩ = some (.slice A2 (tn + 1) c2) := by rw [← hwb]; simp
      have hbne : w.heap.size ≠ w2.heap.size := by omega
      rw [hwb]
      clear hwb
      generalize w2.heap.size = Bx at b0 hbne tl ⊢
      replace t0 := xb.cell t0
      have rBb := rangeAt_ext rB2 xb
      have kb := k2.trans xb
      clear rB2
      go_wp2_with (refine wpList_load_mid rfl 44 _ rfl _ _ rfl b.cells _ rBb Try.underlying44 rfl hb66 ?_)
      have hin2 := insert_any A2 (tn + 1) c2 (Tree.putV t b) b HBO.out wb (H2.out _ xb)
      rw [HKN.out] at hin2
      refine hin2.mono ?_
      rintro e3 w3 ⟨⟨A3, m3, c3, rfl, _⟩, hx3⟩
      have k3 := kb.trans hx3
      have y3 := xb.trans hx3
      replace t0 := hx3.cell t0
      replace b0 := hx3.cell b0
      have rB3 := rangeAt_ext rBb hx3
      clear rBb hin2 HIN
      have tl2 := lt_of_cell t0
      have bl2 := lt_of_cell b0
      go_upto_region 8 with fail
      obtain ⟨w4, hw4⟩ : ∃ w4, w3.alloc (.cells #[.slice A3 m3 c3] 24) = w4 := ⟨_, rfl⟩
      have x4 : Ext w3 w4 := by rw [← hw4]; exact (by repeat (first | assumption | exact Ext.refl _ | refine Ext.alloc ?_ _ | refine Ext.drew ?_ | refine Ext.drewN ?_ _ | refine Ext.setCell ?_ (by first | (simp; done) | omega | (simp; omega)) _ | refine Ext.trans (by assumption) ?_))
      rw [hw4]
      clear hw4
      replace t0 := x4.cell t0
      replace b0 := x4.cell b0
      have k4 := k3.trans x4
      have y4 := y3.trans x4
      have rB4 := rangeAt_ext rB3 x4
      obtain ⟨rR, rU, dS, dJ⟩ := add_range_block rB4 HBO.out
      clear rB3 rB4 x4 hx3 y3 k3
      go_wp2_with fail
      refine (treeMay_is A2 (tn + 1) c2 (Tree.putV t b) true HPM.out _ (H2.out _ y4)).mono ?_
      rintro e5 w5 ⟨rfl, hx5⟩
      have y5 := y4.trans hx5
      replace t0 := hx5.cell t0
      replace b0 := hx5.cell b0
      have rR5 := rangeAt_ext rR hx5
      go_wp2_with (refine wpList_load_grd rfl 32 _ rfl _ _ rfl (rootC b.root) _ rR5 Try.underlying32 rfl hr32 ?_)
      refine (find_is A2 (tn + 1) c2 (Tree.putV t b) b.root HBO.out.1 tn HPF.out _ (H2.out _ y5)).mono ?_
      rintro e6 w6 ⟨rfl, hx6⟩
      have x6 := hx5.trans hx6
      have y6 := y5.trans hx6
      have k6 := k4.trans x6
      replace t0 := hx6.cell t0
      replace b0 := hx6.cell b0
      have RU := Lib.hid (rangeAt_ext rU x6)
      have DS := Lib.hid (x6.cell dS)
      have DJ := Lib.hid (x6.cell dJ)
      have T0 := Lib.hid t0
      have B0 := Lib.hid b0
      clear rR rR5 rU dS dJ hx5 hx6 x6 y5 y4 k4 t0 b0
      go_wp2
      go_loopw [11] (fun i' wr => ∃ i : Nat, i ≤ tn ∧ i' = .int .i64 i ∧ Ext w6 wr) (fun i' _ => tn - (intOf i').toNat)
      case atStart => exact ⟨0, Nat.zero_le _, rfl, Ext.refl _⟩
      case round =>
        obtain ⟨i, hi, rfl, hx⟩ := hrel
        have t0 := hx.cell T0.out
        have b0 := hx.cell B0.out
        have kr := k6.trans hx
        have yr := y6.trans hx
        by_cases hlt : i < tn
        · have gi : (i : Int) < tn := by omega
          have gi2 : (i : Int) < (tn : Int) + 1 := by omega
          obtain ⟨bb, off, rfl, r1, ok1⟩ := (HV.out _ kr).at' hlt
          obtain ⟨bb2, off2, rfl, r2, ok2⟩ := (H2.out _ yr).at' (i := i) (by omega)
          change wr.rangeAt _ _ (Tree.nd t i).cells at r1
          change wr.rangeAt _ _ (Tree.nd (Tree.putV t b) i).cells at r2
          rw [HND.out i hlt] at r2
          replace ok1 : (Tree.nd t i).Ok := ok1
          generalize Tree.nd t i = x at r1 r2 ok1
          have hi35 : (Try.prog.info? 34).map (·.size) = some x.cells.length := by rw [Node.len ok1]; kernel_rfl
          have hq : ∀ W, (binOp .neq 34 (.agg x.cells.toArray) (.agg x.cells.toArray)).run Try.prog W = .ok (.bool false) W := fun W => Node.neq ok1 ok1 (b := true) (by simp) W
          clear ok1 ok2
          go_wp2
          have z0 := fun p => cell_in t0 p
          have z1 := fun p => cell_in b0 p
          refine wp_region_quiet_below (by kernel_rfl) (by kernel_rfl) ?_
          repeat (first | go_big_quiet_skip | (go_big_quiet_want; first | ((first | (refine quiet_load_mid 34 _ rfl _ _ rfl x.cells _ (fun W ⟨p, hp⟩ => hp ▸ rangeAt_ext r1 (ext_regrown _ p)) Try.underlying34 rfl hi35 ?_) | (refine quiet_load_mid 34 _ rfl _ _ rfl x.cells _ (fun W ⟨p, hp⟩ => hp ▸ rangeAt_ext r2 (ext_regrown _ p)) Try.underlying34 rfl hi35 ?_)); (try simp only [Act.put, List.setIfInBounds_toArray, List.set_cons_zero, List.set_cons_succ]); go_big_quiet_on) | (go_big_quiet_op; first | go_big_quiet_on | go_big_quiet_call (fail))))
          refine wpQuiet_nil ?_
          intro _ hw'
          obtain ⟨pq, hw''⟩ := hw'
          subst hw''
          go_wp2
          go_roundw
          case rel => exact ⟨i + 1, by omega, by go_num, hx.trans (ext_regrown _ _)⟩
          case measure => first | (simp [intOf]; done) | (simp [intOf]; omega)
        · obtain rfl : tn = i := by omega
          obtain ⟨bb2, off2, rfl, r2, ok2⟩ := (H2.out _ yr).at' (i := tn) (by omega)
          have e1 := rangeAt_head r2 (Node.at32 ok2)
          have e2 := rangeAt_head r2 (Node.at33 ok2)
          have e3 := rangeAt_head r2 (Node.at34 ok2)
          change World.cell? _ _ = some (.int .i64 (Tree.nd (Tree.putV t b) tn).par) at e1
          change World.cell? _ _ = some (.int .u64 (Tree.nd (Tree.putV t b) tn).slot) at e2
          change World.cell? _ _ = some (.int .u64 (Tree.nd (Tree.putV t b) tn).just) at e3
          rw [HNL.out] at e1 e2 e3
          rw [HPAR.out] at e1
          change World.cell? _ _ = some (.int .u64 b.slot) at e2
          change World.cell? _ _ = some (.int .u64 b.just) at e3
          have dS := hx.cell DS.out
          have dJ := hx.cell DJ.out
          have rU := rangeAt_ext RU.out hx
          generalize b.slot = bs at *
          generalize b.just = bj at *
          have gt : (tn : Int) < (tn : Int) + 1 := by omega
          clear r2 ok2
          go_wp2
          have z0 := fun p => cell_in t0 p
          have z1 := fun p => cell_in b0 p
          have z2 := fun p => cell_in e1 p
          have z3 := fun p => cell_in e2 p
          have z4 := fun p => cell_in e3 p
          have z5 := fun p => cell_in dS p
          have z6 := fun p => cell_in dJ p
          refine wp_region_quiet_below (by kernel_rfl) (by kernel_rfl) ?_
          repeat (first | go_big_quiet_skip | (go_big_quiet_want; first | ((refine quiet_load_mid 32 _ rfl _ _ rfl (rootC b.up) _ (fun W ⟨p, hp⟩ => hp ▸ rangeAt_ext rU (ext_regrown _ p)) Try.underlying32 rfl hu32 ?_); (try simp only [Act.put, List.setIfInBounds_toArray, List.set_cons_zero, List.set_cons_succ]); go_big_quiet_on) | (go_big_quiet_op; first | go_big_quiet_on | go_big_quiet_call ((go_at_call 16; exact regrown_ext (HF.out _ (kr.trans (ext_regrown _ _))))))))
          refine wpQuiet_nil ?_
          intro _ hw'
          obtain ⟨pq, hw''⟩ := hw'
          subst hw''
          go_wp2
          go_ret
          exact ⟨rfl, kr.trans (ext_regrown _ _)⟩
    · obtain ⟨E, hEE⟩ : ∃ E, Tree.putE t b = E := ⟨_, rfl⟩
      have hpv : Tree.putV t b = t := by unfold Tree.putV; rw [if_neg hE]
      rw [hEE, hpv] at HIN
      rw [hEE] at hE
      have gE : (E != 0) = true := by simp [hE]
      have gE2 : ¬ E = 0 := hE
      have HSA := Lib.hid (fun A m c W (h : NL W A m c t) (g : NL W tA tn tc t) => tsame_is A m c tA tn tc t t true (eqN_iff.2 rfl) W h g)
      clear hEE hE hpv
      go_enter Try.func9, Try.ntmps9
      try simp only [List.append_eq, List.cons_append, List.nil_append]
      go_wp2_with fail
      refine (HAW.out _).mono ?_
      rintro e0 w0 ⟨rfl, hx0⟩
      have k0 : Ext w w0 := Ext.trans ((by repeat (first | assumption | exact Ext.refl _ | refine Ext.alloc ?_ _ | refine Ext.drew ?_ | refine Ext.drewN ?_ _ | refine Ext.setCell ?_ (by first | (simp; done) | omega | (simp; omega)) _ | refine Ext.trans (by assumption) ?_))) hx0
      have t0 := hx0.cell (p := ⟨w.heap.size, 0, none⟩) (v := .slice tA tn tc) (by first | (simp; done) | (simp (maxDischargeDepth := 7) [go_sem]; done))
      have rB0 : w0.rangeAt (w.heap.size + 1) 0 b.cells := rangeAt_ext (range_at (w := w.alloc (.cells #[.slice tA tn tc] 24)) (B := w.heap.size + 1) b.cells 44 (by simp)) hx0
      go_wp2_with fail
      refine (HM.out true hm _ k0).mono ?_
      rintro e1 w1 ⟨rfl, hx1⟩
      have k1 : Ext w w1 := k0.trans hx1
      replace t0 := hx1.cell t0
      clear HAW HM hm
      have rB1 := rangeAt_ext rB0 hx1
      have tl := lt_of_cell t0
      go_wp2_with (refine wpList_load_mid rfl 44 _ rfl _ _ rfl b.cells _ rB1 Try.underlying44 rfl hb66 ?_)
      refine (HIN.out _ k1).mono ?_
      rintro e2 w2 ⟨⟨A2, m, c2, rfl, h2⟩, hx2⟩
      have k2 := k1.trans hx2
      replace t0 := hx2.cell t0
      have rB2 := rangeAt_ext rB1 hx2
      clear rB0 rB1
      replace tl := lt_of_cell t0
      replace tl : w.heap.size < w2.heap.size := tl
      clear hx0 rB2
      go_wp2_with fail
      refine (HSA.out _ _ _ _ (h2.ext ((by repeat (first | assumption | exact Ext.refl _ | refine Ext.alloc ?_ _ | refine Ext.drew ?_ | refine Ext.drewN ?_ _ | refine Ext.setCell ?_ (by first | (simp; done) | omega | (simp; omega)) _ | refine Ext.trans (by assumption) ?_)))) (HV.out _ (k2.trans ((by repeat (first | assumption | exact Ext.refl _ | refine Ext.alloc ?_ _ | refine Ext.drew ?_ | refine Ext.drewN ?_ _ | refine Ext.setCell ?_ (by first | (simp; done) | omega | (simp; omega)) _ | refine Ext.trans (by assumption) ?_)))))).mono ?_
      rintro e3 w3 ⟨rfl, hx3⟩
      go_wp2
      go_ret
      exact ⟨rfl, k2.trans (Ext.trans ((by repeat (first | assumption | exact Ext.refl _ | refine Ext.alloc ?_ _ | refine Ext.drew ?_ | refine Ext.drewN ?_ _ | refine Ext.setCell ?_ (by first | (simp; done) | omega | (simp; omega)) _ | refine Ext.trans (by assumption) ?_))) hx3)⟩
set_option maxRecDepth 100000 in
theorem TreeInsert_lifted (os : Os) (started : os.Started) (H : Type) (enc : TypeId × Value → H) :
    ReturnsInHanded {} Try.checked os 9 .any (Rows.treeInsertSpec.pre6 enc Try.prog Try.f9 Rows.treeInsertRow.domain false) (Rows.treeInsertSpec.post enc Try.prog Try.f9 false true false false) := by
  refine returnsInHanded_of_change_sized (C := Try.checked) own started (by kernel_rfl) Try.func9
    (ChangeSpec.witness6 (enc := enc) (C := Try.checked) false ⟨#[], #[.agg #[.slice none 0 0], .agg (Block.cells Block.zero).toArray], []⟩ 8 (by kernel_rfl) (by kernel_rfl) (by kernel_rfl) (by kernel_rfl)) ?_
  intro W base args ds gs before hval0 hW _hcnd hsz0 _
  have hval : ∀ (j : Nat) t v, Try.f9.params[j]? = some t → args[j]? = some v → Value.okWide Try.prog W .any base t v := hval0
  have hsz : (DataW.weightsEach Try.prog (Try.f9.params.toList ++ Rows.treeInsertSpec.plain.varTypes Try.prog) (ds ++ gs)).all (· ≤ reachBytes) = true := hsz0
  have hW' := hW
  obtain ⟨p, q, hA0, hV, rfl, hfz, hnd⟩ := hW
  have hA : DataW.TrodAll enc Try.prog W 0 (fun _ => true) true Try.f9.params.toList args.toList ds p := hA0
  rw [Try.params9] at hA hval hsz
  obtain ⟨v0, vs0, d0, ds0, p0, q0, hargs, rfl, rfl, h0, r0⟩ := trodAll_cons hA
  obtain ⟨v1, vs1, d1, ds1, p1, q1, rfl, rfl, rfl, h1, r1⟩ := trodAll_cons r0
  obtain ⟨rfl, rfl, rfl⟩ := trodAll_nil r1
  obtain rfl : args = #[v0, v1] := by cases args; simp_all
  obtain ⟨rfl, rfl⟩ := trodVars_none hV
  have h0k := h0
  have h1k := h1
  have hlt0 : ∀ x ∈ p0, x.block < W.heap.size := fun x hx => by have := hW'.lt x (by simp [hx]); simpa using this
  have hlt1 : ∀ x ∈ p1, x.block < W.heap.size := fun x hx => by have := hW'.lt x (by simp [hx]); simpa using this
  obtain ⟨tA, tn, tc, t, rfl, ht⟩ := open_tree (hval 0 24 v0 rfl rfl) h0 hsz (j := 0) rfl rfl
  obtain ⟨b, rfl, hb⟩ := open_block (hval 1 44 v1 rfl rfl) h1
  clear hA0 hval0
  simp only [List.append_nil] at hW'
  refine (TreeInsert_walk tA tn tc t ht b hb (w := W)).mono fun e W' ⟨he, hg⟩ => ?_
  subst he
  exact ⟨_, rfl, post_law (pa := p0 ++ (p1 ++ [])) (pv := []) hW' (fun _ _ _ => (trodAll_cons_mk (shut_bool Try.underlying4 _) trodAll_mk0))
    (trodAll_cons_mk (Below.trod laidOut (by kernel_rfl) (of_decide_eq_true (by kernel_rfl)) h0k hg.out hlt0) (trodAll_cons_mk (Below.trod laidOut (by kernel_rfl) (of_decide_eq_true (by kernel_rfl)) h1k hg.out hlt1) trodAll_mk0)) rfl (by simp) hg⟩
theorem TreeInsert_holds : Rows.TreeInsertSaid :=
  OpenClaim.holds_of_wide 9 Try.f9 rfl rfl rfl rfl rfl rfl rfl ⟨rfl, rfl, rfl, rfl, rfl⟩ rfl rfl rfl rfl rfl (by kernel_rfl) Try.func9 (by kernel_rfl)
    (of_decide_eq_true (by kernel_rfl)) (by unfold Func.isWrapper; first | (rw [if_pos (by decide +kernel)]; kernel_rfl) | (rw [if_neg (by decide +kernel)]; exact ⟨rfl, rfl⟩))
    (fun os started H enc _ => TreeInsert_lifted os started H enc)
#print axioms TreeInsert_holds
end Go.Proofs.Ytoifhpcpahfddaa
