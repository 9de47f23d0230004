/- The document's answer of layer 12: Put, where the vote is taken. -/
import Derived.Test.YtnpopepannimiaaVoteRefPut
namespace Go.Proofs.Ytnpopepannimiaa
open Go.RowKit Go.WideShapes Go.ChangeShapes
set_option linter.unusedVariables false
set_option linter.unusedSimpArgs false









theorem wpList_at84 {P : Program} {ops : Array Oper} {rest : List Oper} {t : TypeId} {p : String} {af : Array Edge} {g : Option (Nat × Bool)} {a : Act} {w : World} {Q : Exit → Act → World → Prop} (h : wpList P ops Q ({ dst := some 84, op := .load 32 (.tmp 6), type := t, pos := p, after := af, guard := g } :: rest) a w) : wpList P ops Q ({ dst := some 84, op := .load 32 (.tmp 6), type := t, pos := p, after := af, guard := g } :: rest) a w := h
set_option maxHeartbeats 4000000 in
theorem rput_new (A : Option Addr) (n c : Nat) (out : Nat) (ho : out < 18446744073709551616) (LS : List Lat) (k : Nat) (hk : k < n) (r : List Int) (hr0 : RootOk r) (e : Nat) (he : e < 18446744073709551616) (w : World) (h : VL w A n c LS) (hm : mayV LS out = true) (hc : howV (LS.getD k Lat.none) (out.testBit k) r e = 0) :
    Calls Try.prog 15 #[.agg #[.slice A n c, .int .u64 out], .int .i64 k, .agg (rootC r).toArray, .int .u64 e] w fun e' w' => (∃ A2 c2, e' = .returned (.tuple #[.agg #[.slice A2 n c2, .int .u64 out], .int .i64 1, .int .i64 0]) ∧ VL w' A2 n c2 (LS.set k ⟨true, r, e⟩)) ∧ Ext w w' := by
  have HW := Lib.hid (fun W (kx : Ext w W) => rwith_any A n c out LS k hk ⟨true, r, e⟩ ⟨hr0, he⟩ W (h.ext kx))
  have HM := Lib.hid (fun W (k : Ext w W) => rvmay_any A n c out ho LS W (h.ext k))
  have HV := Lib.hid (fun W (k : Ext w W) => h.ext k)
  have hlen := h.len
  have h8 := (mayV_iff.1 hm).2.1
  rw [hlen] at h8
  rw [hm] at HM
  have g1 : (k : Int) < n := by omega
  obtain ⟨b, off, rfl, hr, hok⟩ := h.at' hk
  generalize LS.getD k Lat.none = x at *
  have hi34 : (Try.prog.info? 34).map (·.size) = some x.cells.length := by rw [Lat.len hok]; kernel_rfl
  have hi32 : (Try.prog.info? 32).map (·.size) = some (rootC x.root).length := by rw [rootC_len hok.1]; kernel_rfl
  have hi32' : (Try.prog.info? 32).map (·.size) = some (rootC r).length := by rw [rootC_len hr0]; kernel_rfl
  have hrl := rootC_len hr0
  cases hb : out.testBit k with
  | true => rw [hb] at hc; unfold howV at hc; simp at hc
  | false =>
    rw [hb] at hc
    unfold howV at hc
    cases hh : x.has with
    | false =>
      clear hc
      have HH := Lib.hid (fun W => (by have k0 := refHas_any out ho (k : Int) (by omega) (by omega) W; rw [Stake.hasV_nat out (by omega), hb] at k0; exact k0 : Calls Try.prog 24 #[.int .u64 out, .int .i64 k] W fun e w' => e = .returned (.bool false) ∧ w' = W))
      clear h hm hlen hb
      go_enter Try.func15, Try.ntmps15
      go_wp2_with fail
      refine (HM.out _ ((by repeat (first | assumption | exact Ext.refl _ | refine Ext.alloc ?_ _ | refine Ext.drew ?_ | refine Ext.drewN ?_ _ | refine Ext.setCell ?_ (by first | (simp; done) | omega | (simp; omega)) _ | refine Ext.trans (by assumption) ?_)))).mono ?_
      rintro e1 w1 ⟨rfl, hx1⟩
      have kk : Ext w w1 := Ext.trans ((by repeat (first | assumption | exact Ext.refl _ | refine Ext.alloc ?_ _ | refine Ext.drew ?_ | refine Ext.drewN ?_ _ | refine Ext.setCell ?_ (by first | (simp; done) | omega | (simp; omega)) _ | refine Ext.trans (by assumption) ?_))) hx1
      have rR := rangeAt_ext (range_at (w := w.alloc (.cells #[.slice (some ⟨b, off, none⟩) n c, .int .u64 out] 28)) (B := w.heap.size + 1) (rootC r) 32 (by simp)) (((Ext.refl _).alloc (.cells #[.slice none 0 0, .int .u64 0] 28)).trans hx1)
      obtain ⟨u0, u1, uf⟩ := hx1.box2 (B := w.heap.size) (a := .slice (some ⟨b, off, none⟩) n c) (b := .int .u64 out) (by first | (simp; done) | (simp (maxDischargeDepth := 7) [go_sem]; done)) (by first | (simp; done) | (simp (maxDischargeDepth := 7) [go_sem]; done)) (by first | (simp; done) | (simp (maxDischargeDepth := 7) [go_sem]; done))
      have ul := lt_of_cell u0
      obtain ⟨v0, v1, vf⟩ := hx1.box2 (B := w.heap.size + 1 + 1) (a := .slice none 0 0) (b := .int .u64 0) (by first | (simp; done) | (simp (maxDischargeDepth := 7) [go_sem]; done)) (by first | (simp; done) | (simp (maxDischargeDepth := 7) [go_sem]; done)) (by first | (simp; done) | (simp (maxDischargeDepth := 7) [go_sem]; done))
      have vl := lt_of_cell v0
      replace hr := rangeAt_ext hr kk
      go_wp2_with fail
      refine (HH.out _).mono ?_
      rintro e2 w2 ⟨rfl, hw2⟩
      obtain rfl : w1 = w2 := hw2.symm
      go_upto_region 8 with (first | ((with_reducible (refine wpList_at38 ?_)); refine wpList_load_mid rfl 34 _ rfl _ _ rfl x.cells _ hr Try.underlying34 rfl hi34 ?_) | (refine wpList_store_mid rfl 34 _ _ rfl _ 0 x.cells.toArray rfl rfl (there_at (by simp) _ (by rw [List.size_toArray, Lat.len hok]; decide)) (by rw [List.size_toArray]; exact hi34) (all_oneCell_toArray (Lat.one x)) ?_; rw [List.toList_toArray, setCells_at (by simp) (by rw [Lat.len hok]; rfl)]))
      have kx : Ext w1 (w1.alloc (.cells x.cells.toArray 34)) := (Ext.refl _).alloc _
      have DX := range_at (w := w1) (B := w1.heap.size) x.cells 34 rfl
      have d0 := DX 0 (.bool x.has) rfl
      have d33 := DX 33 (.int .u64 x.epoch) (Lat.at33 hok)
      have DR := rangeAt_part DX (k := 1) rfl
      simp only [Nat.zero_add] at d0 d33 DR
      replace u0 := kx.cell u0
      replace u1 := kx.cell u1
      replace vf := fun o => (kx.out.frozen (p := ⟨w.heap.size + 1 + 1, o, none⟩) vl).trans (vf o)
      replace v0 := kx.cell v0
      replace v1 := kx.cell v1
      replace ul := lt_of_cell u0
      replace vl := lt_of_cell v0
      replace rR := rangeAt_ext rR kx
      replace kk := kk.trans kx
      clear DX kx hr uf hx1
      try simp only [Act.put, List.setIfInBounds_toArray, List.set_cons_zero, List.set_cons_succ]
      generalize (w1.alloc (.cells x.cells.toArray 34)) = w3 at *
      generalize w1.heap.size = X13 at *
      rw [hh] at d0
      clear hh
      go_wp2_with ((with_reducible (refine wpList_at84 ?_)); refine wpList_load_mid rfl 32 _ rfl _ _ rfl (rootC r) _ rR Try.underlying32 rfl hi32' ?_)
      · exact absurd h (build_size rfl)
      rw [build_lat hr0 e]
      refine (HW.out _ kk).mono ?_
      rintro e3 w4 ⟨⟨A2, c2, rfl, h2, hf2⟩, hx4⟩
      have hne : ∀ ad, A2 = some ad → ad.block ≠ w.heap.size + 1 + 1 := fun ad e => by have := hf2 ad e; omega
      have k4 := kk.trans hx4
      replace vf := fun o => (hx4.out.frozen (p := ⟨w.heap.size + 1 + 1, o, none⟩) vl).trans (vf o)
      replace v0 := hx4.cell v0
      replace v1 := hx4.cell v1
      have H2 := Lib.hid h2
      have HN := Lib.hid hne
      clear h2 hne hf2 rR d0 d33 DR u0 u1 HW HM HH
      go_wp2
      refine bodyPost_ret (v := .tuple #[.agg #[.slice A2 n c2, .int .u64 out], .int .i64 1, .int .i64 0]) (by simp (maxDischargeDepth := 7) [results, Try.results15, go_sem, v0, v1]) rfl ⟨⟨_, _, rfl, (H2.out.setCell (p := ⟨w.heap.size + 1 + 1, 0, none⟩) HN.out _).setCell (p := ⟨w.heap.size + 1 + 1, 1, none⟩) HN.out _⟩, ?_⟩
      exact (k4.setCell (by show _ ≤ w.heap.size + 1 + 1; omega) _).setCell (by show _ ≤ w.heap.size + 1 + 1; omega) _
    | true =>
      rcases Nat.lt_trichotomy x.epoch e with hlt | heq | hgt
      · have g2 : ¬ (e : Int) < x.epoch := by omega
        have g3 : ((x.epoch : Int) == (e : Int)) = false := by simp; omega
        clear hc hlt
        have HH := Lib.hid (fun W => (by have k0 := refHas_any out ho (k : Int) (by omega) (by omega) W; rw [Stake.hasV_nat out (by omega), hb] at k0; exact k0 : Calls Try.prog 24 #[.int .u64 out, .int .i64 k] W fun e w' => e = .returned (.bool false) ∧ w' = W))
        clear h hm hlen hb
        go_enter Try.func15, Try.ntmps15
        go_wp2_with fail
        refine (HM.out _ ((by repeat (first | assumption | exact Ext.refl _ | refine Ext.alloc ?_ _ | refine Ext.drew ?_ | refine Ext.drewN ?_ _ | refine Ext.setCell ?_ (by first | (simp; done) | omega | (simp; omega)) _ | refine Ext.trans (by assumption) ?_)))).mono ?_
        rintro e1 w1 ⟨rfl, hx1⟩
        have kk : Ext w w1 := Ext.trans ((by repeat (first | assumption | exact Ext.refl _ | refine Ext.alloc ?_ _ | refine Ext.drew ?_ | refine Ext.drewN ?_ _ | refine Ext.setCell ?_ (by first | (simp; done) | omega | (simp; omega)) _ | refine Ext.trans (by assumption) ?_))) hx1
        have rR := rangeAt_ext (range_at (w := w.alloc (.cells #[.slice (some ⟨b, off, none⟩) n c, .int .u64 out] 28)) (B := w.heap.size + 1) (rootC r) 32 (by simp)) (((Ext.refl _).alloc (.cells #[.slice none 0 0, .int .u64 0] 28)).trans hx1)
        obtain ⟨u0, u1, uf⟩ := hx1.box2 (B := w.heap.size) (a := .slice (some ⟨b, off, none⟩) n c) (b := .int .u64 out) (by first | (simp; done) | (simp (maxDischargeDepth := 7) [go_sem]; done)) (by first | (simp; done) | (simp (maxDischargeDepth := 7) [go_sem]; done)) (by first | (simp; done) | (simp (maxDischargeDepth := 7) [go_sem]; done))
        have ul := lt_of_cell u0
        obtain ⟨v0, v1, vf⟩ := hx1.box2 (B := w.heap.size + 1 + 1) (a := .slice none 0 0) (b := .int .u64 0) (by first | (simp; done) | (simp (maxDischargeDepth := 7) [go_sem]; done)) (by first | (simp; done) | (simp (maxDischargeDepth := 7) [go_sem]; done)) (by first | (simp; done) | (simp (maxDischargeDepth := 7) [go_sem]; done))
        have vl := lt_of_cell v0
        replace hr := rangeAt_ext hr kk
        go_wp2_with fail
        refine (HH.out _).mono ?_
        rintro e2 w2 ⟨rfl, hw2⟩
        obtain rfl : w1 = w2 := hw2.symm
        go_upto_region 8 with (first | ((with_reducible (refine wpList_at38 ?_)); refine wpList_load_mid rfl 34 _ rfl _ _ rfl x.cells _ hr Try.underlying34 rfl hi34 ?_) | (refine wpList_store_mid rfl 34 _ _ rfl _ 0 x.cells.toArray rfl rfl (there_at (by simp) _ (by rw [List.size_toArray, Lat.len hok]; decide)) (by rw [List.size_toArray]; exact hi34) (all_oneCell_toArray (Lat.one x)) ?_; rw [List.toList_toArray, setCells_at (by simp) (by rw [Lat.len hok]; rfl)]))
        have kx : Ext w1 (w1.alloc (.cells x.cells.toArray 34)) := (Ext.refl _).alloc _
        have DX := range_at (w := w1) (B := w1.heap.size) x.cells 34 rfl
        have d0 := DX 0 (.bool x.has) rfl
        have d33 := DX 33 (.int .u64 x.epoch) (Lat.at33 hok)
        have DR := rangeAt_part DX (k := 1) rfl
        simp only [Nat.zero_add] at d0 d33 DR
        replace u0 := kx.cell u0
        replace u1 := kx.cell u1
        replace vf := fun o => (kx.out.frozen (p := ⟨w.heap.size + 1 + 1, o, none⟩) vl).trans (vf o)
        replace v0 := kx.cell v0
        replace v1 := kx.cell v1
        replace ul := lt_of_cell u0
        replace vl := lt_of_cell v0
        replace rR := rangeAt_ext rR kx
        replace kk := kk.trans kx
        clear DX kx hr uf hx1
        try simp only [Act.put, List.setIfInBounds_toArray, List.set_cons_zero, List.set_cons_succ]
        generalize (w1.alloc (.cells x.cells.toArray 34)) = w3 at *
        generalize w1.heap.size = X13 at *
        rw [hh] at d0
        clear hh
        go_wp2_with ((with_reducible (refine wpList_at84 ?_)); refine wpList_load_mid rfl 32 _ rfl _ _ rfl (rootC r) _ rR Try.underlying32 rfl hi32' ?_)
        · exact absurd h (build_size rfl)
        rw [build_lat hr0 e]
        refine (HW.out _ kk).mono ?_
        rintro e3 w4 ⟨⟨A2, c2, rfl, h2, hf2⟩, hx4⟩
        have hne : ∀ ad, A2 = some ad → ad.block ≠ w.heap.size + 1 + 1 := fun ad e => by have := hf2 ad e; omega
        have k4 := kk.trans hx4
        replace vf := fun o => (hx4.out.frozen (p := ⟨w.heap.size + 1 + 1, o, none⟩) vl).trans (vf o)
        replace v0 := hx4.cell v0
        replace v1 := hx4.cell v1
        have H2 := Lib.hid h2
        have HN := Lib.hid hne
        clear h2 hne hf2 rR d0 d33 DR u0 u1 HW HM HH
        go_wp2
        refine bodyPost_ret (v := .tuple #[.agg #[.slice A2 n c2, .int .u64 out], .int .i64 1, .int .i64 0]) (by simp (maxDischargeDepth := 7) [results, Try.results15, go_sem, v0, v1]) rfl ⟨⟨_, _, rfl, (H2.out.setCell (p := ⟨w.heap.size + 1 + 1, 0, none⟩) HN.out _).setCell (p := ⟨w.heap.size + 1 + 1, 1, none⟩) HN.out _⟩, ?_⟩
        exact (k4.setCell (by show _ ≤ w.heap.size + 1 + 1; omega) _).setCell (by show _ ≤ w.heap.size + 1 + 1; omega) _
      · exfalso; by_cases hre : x.root = r <;> simp [hh, heq, hre] at hc
      · exfalso; simp [hh, hgt] at hc; omega
end Go.Proofs.Ytnpopepannimiaa
