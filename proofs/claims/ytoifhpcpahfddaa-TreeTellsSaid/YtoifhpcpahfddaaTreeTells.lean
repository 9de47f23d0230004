/- TreeTells: any tree may be, or not, any root is found, any block put, and of any places it is told who is above, the ancestors, the children, and what is cut, as the document says; for every input. -/
import Derived.Test.YtoifhpcpahfddaaTreeNew
import Derived.Test.YtoifhpcpahfddaaTreeRefCut
import Derived.Test.YtoifhpcpahfddaaTreeRefAt
import Derived.Test.YtoifhpcpahfddaaTreeAwake
import Derived.Test.YtoifhpcpahfddaaIntsEq
import Derived.Test.YtoifhpcpahfddaaQuietX
import Derived.Deep.DeepCutAuto
namespace Go.Proofs.Ytoifhpcpahfddaa
open Go.RowKit Go.WideShapes Go.ChangeShapes Go.Joins Go.Deep Go.Sort
set_option linter.unusedVariables false
set_option linter.unusedSimpArgs false
set_option linter.unusedSectionVars false






theorem rtsame_self (A : Option Addr) (n c : Nat) (B : Option Addr) (m d : Nat) (l : List Node) (w : World) (h : NL w A n c l) (g : NL w B m d l) :
    Calls Try.prog 23 #[.agg #[.slice A n c], .agg #[.slice B m d]] w fun e w' => e = .returned (.bool true) ∧ Ext w w' := by
  have k := rsame_any A n c B m d l l w h g
  rw [eqN_iff.2 rfl] at k
  exact k


set_option maxRecDepth 8000 in
set_option maxHeartbeats 4000000 in
theorem TreeTells_walk {w : World} (tA : Option Addr) (tn tc : Nat) (t : List Node) (ht : NL w tA tn tc t) (uA : Option Addr) (un uc : Nat) (u : List Node) (hu : NL w uA un uc u) (b : Block) (hb : b.Ok) (i : Int) (i1 : -9223372036854775808 ≤ i) (i2 : i ≤ 9223372036854775807) (k : Int) (k1 : -9223372036854775808 ≤ k) (k2 : k ≤ 9223372036854775807) (s : Nat) (hs : s < 18446744073709551616) :
    Calls Try.prog 10 #[.agg #[.slice tA tn tc], .agg #[.slice uA un uc], .agg b.cells.toArray, .int .i64 i, .int .i64 k, .int .u64 s] w fun e' w' => e' = .returned (.bool true) ∧ Ext w w' := by
  have HAW := Lib.hid (fun W => awake_any W)
  have wi := wf_i64 i1 i2
  have wk := wf_i64 k1 k2
  have hb66 : (Try.prog.info? 44).map (·.size) = some b.cells.length := by rw [Block.len hb]; kernel_rfl
  have hu32 : (Try.prog.info? 32).map (·.size) = some (rootC b.up).length := by rw [rootC_len hb.2.1]; kernel_rfl
  have hr32 : (Try.prog.info? 32).map (·.size) = some (rootC b.root).length := by rw [rootC_len hb.1]; kernel_rfl
  by_cases h1 : 20 < tn
  · have g1 : (20 : Int) < tn := by omega
    clear ht hu hb
    go_enter Try.func10, Try.ntmps10
    try simp only [List.append_eq, List.cons_append, List.nil_append]
    go_wp2_with fail
    refine (HAW.out _).mono ?_
    rintro e0 w0 ⟨rfl, hx0⟩
    have k0 : Ext w w0 := Ext.trans ((by repeat (first | assumption | exact Ext.refl _ | refine Ext.alloc ?_ _ | refine Ext.drew ?_ | refine Ext.drewN ?_ _ | refine Ext.setCell ?_ (by first | (simp; done) | omega | (simp; omega)) _ | refine Ext.trans (by assumption) ?_))) hx0
    have t0 := hx0.cell (p := ⟨w.heap.size, 0, none⟩) (v := .slice tA tn tc) (by first | (simp; done) | (simp (maxDischargeDepth := 7) [go_sem]; done))
    have u0 : w0.cell? ⟨w.heap.size + 1, 0, none⟩ = some (.slice uA un uc) := hx0.cell (by simp (maxDischargeDepth := 7) [go_sem])
    have rB : w0.rangeAt (w.heap.size + 1 + 1) 0 b.cells := rangeAt_ext (range_at (w := (w.alloc (.cells #[.slice tA tn tc] 24)).alloc (.cells #[.slice uA un uc] 24)) (B := w.heap.size + 1 + 1) b.cells 44 (by simp)) hx0
    have tl := lt_of_cell t0
    have ul := lt_of_cell u0
    go_wp2
    go_ret
    exact ⟨rfl, k0⟩
  have g1 : ¬ (20 : Int) < tn := by omega
  by_cases h2 : 20 < un
  · have g2 : (20 : Int) < un := by omega
    clear ht hu hb
    go_enter Try.func10, Try.ntmps10
    try simp only [List.append_eq, List.cons_append, List.nil_append]
    go_wp2_with fail
    refine (HAW.out _).mono ?_
    rintro e0 w0 ⟨rfl, hx0⟩
    have k0 : Ext w w0 := Ext.trans ((by repeat (first | assumption | exact Ext.refl _ | refine Ext.alloc ?_ _ | refine Ext.drew ?_ | refine Ext.drewN ?_ _ | refine Ext.setCell ?_ (by first | (simp; done) | omega | (simp; omega)) _ | refine Ext.trans (by assumption) ?_))) hx0
    have t0 := hx0.cell (p := ⟨w.heap.size, 0, none⟩) (v := .slice tA tn tc) (by first | (simp; done) | (simp (maxDischargeDepth := 7) [go_sem]; done))
    have u0 : w0.cell? ⟨w.heap.size + 1, 0, none⟩ = some (.slice uA un uc) := hx0.cell (by simp (maxDischargeDepth := 7) [go_sem])
    have rB : w0.rangeAt (w.heap.size + 1 + 1) 0 b.cells := rangeAt_ext (range_at (w := (w.alloc (.cells #[.slice tA tn tc] 24)).alloc (.cells #[.slice uA un uc] 24)) (B := w.heap.size + 1 + 1) b.cells 44 (by simp)) hx0
    have tl := lt_of_cell t0
    have ul := lt_of_cell u0
    go_wp2
    go_ret
    exact ⟨rfl, k0⟩
  have g2 : ¬ (20 : Int) < un := by omega
  have HIN := Lib.hid (fun W (kx : Ext w W) => insert_any tA tn tc t b hb W (ht.ext kx))
  have HRI := Lib.hid (fun W (kx : Ext w W) => rinsert_any tA tn tc t b hb W (ht.ext kx))
  have HNW := Lib.hid (fun W => tnew_any b.root hb.1 s hs W)
  have HRN := Lib.hid (fun W => rnew_any b.root hb.1 s hs W)
  have HC := Lib.hid (fun W (kx : Ext w W) => cut_any tA tn tc t i wi W (ht.ext kx))
  have HRC := Lib.hid (fun W (kx : Ext w W) => rcut_any tA tn tc t i W (ht.ext kx))
  have HK := Lib.hid (fun W (kx : Ext w W) => kids_any tA tn tc t i wi W (ht.ext kx))
  have HRK := Lib.hid (fun W (kx : Ext w W) => rkids_any tA tn tc t i wi W (ht.ext kx))
  have HM := Lib.hid (fun W (kx : Ext w W) => treeMay_is tA tn tc t _ rfl W (ht.ext kx))
  have HRM := Lib.hid (fun W (kx : Ext w W) => rmay_any tA tn tc t W (ht.ext kx))
  have HS := Lib.hid (fun W (kx : Ext w W) => tsame_any tA tn tc uA un uc t u W (ht.ext kx) (hu.ext kx))
  have HRS := Lib.hid (fun W (kx : Ext w W) => rsame_any tA tn tc uA un uc t u W (ht.ext kx) (hu.ext kx))
  have HA := Lib.hid (fun W (kx : Ext w W) => above_is tA tn tc t i k wi wk _ rfl W (ht.ext kx))
  have HRA := Lib.hid (fun W (kx : Ext w W) => rabove_any tA tn tc t i k W (ht.ext kx))
  have HT := Lib.hid (fun W (kx : Ext w W) => at_is tA tn tc t i wi s hs _ rfl W (ht.ext kx))
  have HRT := Lib.hid (fun W (kx : Ext w W) => r6at_any tA tn tc t i s hs W (ht.ext kx))
  have HF := Lib.hid (fun W (kx : Ext w W) => find_is tA tn tc t b.up hb.2.1 _ rfl W (ht.ext kx))
  have HRF := Lib.hid (fun W (kx : Ext w W) => rfind_any tA tn tc t b.up hb.2.1 W (ht.ext kx))
  obtain ⟨pe, hpe⟩ : ∃ p, Tree.putE t b = p := ⟨_, rfl⟩
  obtain ⟨pv, hpv⟩ : ∃ p, Tree.putV t b = p := ⟨_, rfl⟩
  obtain ⟨nb, hnb⟩ : ∃ p, Tree.newB s = p := ⟨_, rfl⟩
  obtain ⟨nv, hnv⟩ : ∃ p, Tree.newV b.root s = p := ⟨_, rfl⟩
  obtain ⟨cv, hcv⟩ : ∃ p, Tree.cutV t i = p := ⟨_, rfl⟩
  obtain ⟨kv, hkv⟩ : ∃ p, Tree.kidsV t i = p := ⟨_, rfl⟩
  obtain ⟨mb, hmb⟩ : ∃ p, Tree.mayV t = p := ⟨_, rfl⟩
  obtain ⟨sb, hsb⟩ : ∃ p, eqN t u = p := ⟨_, rfl⟩
  obtain ⟨ab, hab⟩ : ∃ p, Tree.aboveV t i k = p := ⟨_, rfl⟩
  obtain ⟨av, hav⟩ : ∃ p, Tree.atV t i s = p := ⟨_, rfl⟩
  obtain ⟨fv, hfv⟩ : ∃ p, Tree.findV t b.up = p := ⟨_, rfl⟩
  rw [hpe, hpv] at HIN HRI
  rw [hnb, hnv] at HNW HRN
  rw [hcv] at HC HRC
  rw [hkv] at HK HRK
  rw [hmb] at HM HRM
  rw [hsb] at HS HRS
  rw [hab] at HA HRA
  rw [hav] at HT HRT
  rw [hfv] at HF HRF
  have HBO := Lib.hid hb
  clear hpe hpv hnb hnv hcv hkv hmb hsb hab hav hfv ht hu hb h1 h2
  go_enter Try.func10, Try.ntmps10
  try simp only [List.append_eq, List.cons_append, List.nil_append]
  go_wp2_with fail
  refine (HAW.out _).mono ?_
  rintro e0 w0 ⟨rfl, hx0⟩
  have k0 : Ext w w0 := Ext.trans ((by repeat (first | assumption | exact Ext.refl _ | refine Ext.alloc ?_ _ | refine Ext.drew ?_ | refine Ext.drewN ?_ _ | refine Ext.setCell ?_ (by first | (simp; done) | omega | (simp; omega)) _ | refine Ext.trans (by assumption) ?_))) hx0
  have t0 := hx0.cell (p := ⟨w.heap.size, 0, none⟩) (v := .slice tA tn tc) (by first | (simp; done) | (simp (maxDischargeDepth := 7) [go_sem]; done))
  have u0 : w0.cell? ⟨w.heap.size + 1, 0, none⟩ = some (.slice uA un uc) := hx0.cell (by simp (maxDischargeDepth := 7) [go_sem])
  have rB : w0.rangeAt (w.heap.size + 1 + 1) 0 b.cells := rangeAt_ext (range_at (w := (w.alloc (.cells #[.slice tA tn tc] 24)).alloc (.cells #[.slice uA un uc] 24)) (B := w.heap.size + 1 + 1) b.cells 44 (by simp)) hx0
  have tl := lt_of_cell t0
  have ul := lt_of_cell u0
  have kk := k0
  clear hx0 HAW k0
  go_wp2_with (refine wpList_load_mid rfl 44 _ rfl _ _ rfl b.cells _ (rangeAt_ext rB ((by repeat (first | assumption | exact Ext.refl _ | refine Ext.alloc ?_ _ | refine Ext.drew ?_ | refine Ext.drewN ?_ _ | refine Ext.setCell ?_ (by first | (simp; done) | omega | (simp; omega)) _ | refine Ext.trans (by assumption) ?_)))) Try.underlying44 rfl hb66 ?_)
  refine (HIN.out _ kk).mono ?_
  rintro e1 w1 ⟨⟨A1, m1, c1, rfl, h1⟩, hx1⟩
  replace t0 := hx1.cell t0
  replace u0 := hx1.cell u0
  replace tl := lt_of_cell t0
  replace ul := lt_of_cell u0
  replace rB := rangeAt_ext rB hx1
  replace kk := kk.trans hx1
  clear hx1 HIN
  go_wp2_with (refine wpList_load_mid rfl 44 _ rfl _ _ rfl b.cells _ (rangeAt_ext rB ((by repeat (first | assumption | exact Ext.refl _ | refine Ext.alloc ?_ _ | refine Ext.drew ?_ | refine Ext.drewN ?_ _ | refine Ext.setCell ?_ (by first | (simp; done) | omega | (simp; omega)) _ | refine Ext.trans (by assumption) ?_)))) Try.underlying44 rfl hb66 ?_)
  refine (HRI.out _ (Ext.trans kk ((by repeat (first | assumption | exact Ext.refl _ | refine Ext.alloc ?_ _ | refine Ext.drew ?_ | refine Ext.drewN ?_ _ | refine Ext.setCell ?_ (by first | (simp; done) | omega | (simp; omega)) _ | refine Ext.trans (by assumption) ?_))))).mono ?_
  rintro e2 w2 ⟨⟨A2, m2, c2, rfl, h2⟩, hx2⟩
  have x2 : Ext w1 w2 := Ext.trans ((by repeat (first | assumption | exact Ext.refl _ | refine Ext.alloc ?_ _ | refine Ext.drew ?_ | refine Ext.drewN ?_ _ | refine Ext.setCell ?_ (by first | (simp; done) | omega | (simp; omega)) _ | refine Ext.trans (by assumption) ?_))) hx2
  have y0 : w2.cell? ⟨w1.heap.size, 0, none⟩ = some (.slice A1 m1 c1) := hx2.cell (by simp (maxDischargeDepth := 7) [go_sem])
  replace t0 := x2.cell t0
  replace u0 := x2.cell u0
  replace tl := lt_of_cell t0
  replace ul := lt_of_cell u0
  replace rB := rangeAt_ext rB x2
  replace kk := kk.trans x2
  have rR : w2.rangeAt (w.heap.size + 1 + 1) 0 (rootC b.root) := rangeAt_part (xs := []) (ys := rootC b.root) (zs := rootC b.up ++ [Value.int .u64 b.slot, Value.int .u64 b.just]) (k := 0) (by rw [List.nil_append, ← List.append_assoc]; exact rB) rfl
  have rU : w2.rangeAt (w.heap.size + 1 + 1) 32 (rootC b.up) := by have := rangeAt_part (xs := rootC b.root) (ys := rootC b.up) (zs := [Value.int .u64 b.slot, Value.int .u64 b.just]) (k := 32) rB (rootC_len HBO.out.1); rwa [Nat.zero_add] at this
  replace h1 := h1.ext x2
  have yl := lt_of_cell y0
  clear hx2 x2 HRI rB
  have HS1 := Lib.hid (fun W (kx : Ext w2 W) => rtsame_self A1 m1 c1 A2 m2 c2 pv W (h1.ext kx) (h2.ext kx))
  clear h1 h2
  go_wp2_with (refine wpList_load_mid rfl 32 _ rfl _ _ rfl (rootC b.root) _ (rangeAt_ext rR ((by repeat (first | assumption | exact Ext.refl _ | refine Ext.alloc ?_ _ | refine Ext.drew ?_ | refine Ext.drewN ?_ _ | refine Ext.setCell ?_ (by first | (simp; done) | omega | (simp; omega)) _ | refine Ext.trans (by assumption) ?_)))) Try.underlying32 rfl hr32 ?_)
  refine (HNW.out _).mono ?_
  rintro e3 w3 ⟨⟨A3, m3, c3, rfl, h3⟩, hx3⟩
  have x3 : Ext w2 w3 := Ext.trans ((by repeat (first | assumption | exact Ext.refl _ | refine Ext.alloc ?_ _ | refine Ext.drew ?_ | refine Ext.drewN ?_ _ | refine Ext.setCell ?_ (by first | (simp; done) | omega | (simp; omega)) _ | refine Ext.trans (by assumption) ?_))) hx3
  have z0 : w3.cell? ⟨w2.heap.size, 0, none⟩ = some (.slice A2 m2 c2) := hx3.cell (by simp (maxDischargeDepth := 7) [go_sem])
  replace t0 := x3.cell t0
  replace u0 := x3.cell u0
  replace tl := lt_of_cell t0
  replace ul := lt_of_cell u0
  replace rR := rangeAt_ext rR x3
  replace rU := rangeAt_ext rU x3
  replace kk := kk.trans x3
  replace y0 := x3.cell y0
  have yl := lt_of_cell y0
  have zl := lt_of_cell z0
  clear hx3 HNW
  go_wp2_with (refine wpList_load_mid rfl 32 _ rfl _ _ rfl (rootC b.root) _ (rangeAt_ext rR ((by repeat (first | assumption | exact Ext.refl _ | refine Ext.alloc ?_ _ | refine Ext.drew ?_ | refine Ext.drewN ?_ _ | refine Ext.setCell ?_ (by first | (simp; done) | omega | (simp; omega)) _ | refine Ext.trans (by assumption) ?_)))) Try.underlying32 rfl hr32 ?_)
  refine (HRN.out _).mono ?_
  rintro e4 w4 ⟨⟨A4, m4, c4, rfl, h4⟩, hx4⟩
  have x4 : Ext w3 w4 := Ext.trans ((by repeat (first | assumption | exact Ext.refl _ | refine Ext.alloc ?_ _ | refine Ext.drew ?_ | refine Ext.drewN ?_ _ | refine Ext.setCell ?_ (by first | (simp; done) | omega | (simp; omega)) _ | refine Ext.trans (by assumption) ?_))) hx4
  have p0 : w4.cell? ⟨w3.heap.size, 0, none⟩ = some (.slice A3 m3 c3) := hx4.cell (by simp (maxDischargeDepth := 7) [go_sem])
  replace t0 := x4.cell t0
  replace u0 := x4.cell u0
  replace tl := lt_of_cell t0
  replace ul := lt_of_cell u0
  replace rR := rangeAt_ext rR x4
  replace rU := rangeAt_ext rU x4
  replace kk := kk.trans x4
  replace y0 := x4.cell y0
  have yl := lt_of_cell y0
  replace z0 := x4.cell z0
  have zl := lt_of_cell z0
  have pl := lt_of_cell p0
  replace h3 := h3.ext x4
  have x34 := x3.trans x4
  have HS2 := Lib.hid (fun W (kx : Ext w4 W) => rtsame_self A3 m3 c3 A4 m4 c4 nv W (h3.ext kx) (h4.ext kx))
  clear hx4 x3 x4 HRN h3 h4
  go_wp2_with fail
  refine (HS1.out _ (Ext.trans x34 ((by repeat (first | assumption | exact Ext.refl _ | refine Ext.alloc ?_ _ | refine Ext.drew ?_ | refine Ext.drewN ?_ _ | refine Ext.setCell ?_ (by first | (simp; done) | omega | (simp; omega)) _ | refine Ext.trans (by assumption) ?_))))).mono ?_
  rintro e5 w5 ⟨rfl, hx5⟩
  have x5 : Ext w4 w5 := Ext.trans ((by repeat (first | assumption | exact Ext.refl _ | refine Ext.alloc ?_ _ | refine Ext.drew ?_ | refine Ext.drewN ?_ _ | refine Ext.setCell ?_ (by first | (simp; done) | omega | (simp; omega)) _ | refine Ext.trans (by assumption) ?_))) hx5
  have q0 : w5.cell? ⟨w4.heap.size, 0, none⟩ = some (.slice A4 m4 c4) := hx5.cell (by simp (maxDischargeDepth := 7) [go_sem])
  replace t0 := x5.cell t0
  replace u0 := x5.cell u0
  replace tl := lt_of_cell t0
  replace ul := lt_of_cell u0
  replace rR := rangeAt_ext rR x5
  replace rU := rangeAt_ext rU x5
  replace kk := kk.trans x5
  replace p0 := x5.cell p0
  have pl := lt_of_cell p0
  have ql := lt_of_cell q0
  clear hx5 HS1 x34 y0 z0 yl zl
  go_wp2_with fail
  refine (HS2.out _ x5).mono ?_
  rintro e6 w6 ⟨rfl, hx6⟩
  clear x5
  replace t0 := hx6.cell t0
  replace u0 := hx6.cell u0
  replace tl := lt_of_cell t0
  replace ul := lt_of_cell u0
  replace rR := rangeAt_ext rR hx6
  replace rU := rangeAt_ext rU hx6
  replace kk := kk.trans hx6
  clear hx6 HS2 p0 q0 pl ql
  go_upto_region 10 with fail
  have T0 := Lib.hid t0
  have U0 := Lib.hid u0
  have RR := Lib.hid rR
  have RU := Lib.hid rU
  clear rR rU u0
  go_cut [24] (fun q wx => q = .bool true ∧ Ext w6 wx)
  case first =>
    go_region_held3 (fun w' => w'.cell? ⟨w.heap.size, 0, none⟩ = some (.slice tA tn tc)) (first | go_keep | exact Ext.cell ((by repeat (first | assumption | exact Ext.refl _ | refine Ext.alloc ?_ _ | refine Ext.drew ?_ | refine Ext.drewN ?_ _ | refine Ext.setCell ?_ (by first | (simp; done) | omega | (simp; omega)) _ | refine Ext.trans (by assumption) ?_))) T0.out) (first | (go_at_call 15; (with_reducible refine (HC.out _ (Ext.trans kk ((by repeat (first | assumption | exact Ext.refl _ | refine Ext.alloc ?_ _ | refine Ext.drew ?_ | refine Ext.drewN ?_ _ | refine Ext.setCell ?_ (by first | (simp; done) | omega | (simp; omega)) _ | refine Ext.trans (by assumption) ?_))))).mono ?_); rintro e wa ⟨⟨A5, m5, c5, rfl, h5⟩, hxa⟩; have ka : Ext w6 wa := Ext.trans ((by repeat (first | assumption | exact Ext.refl _ | refine Ext.alloc ?_ _ | refine Ext.drew ?_ | refine Ext.drewN ?_ _ | refine Ext.setCell ?_ (by first | (simp; done) | omega | (simp; omega)) _ | refine Ext.trans (by assumption) ?_))) hxa) | (go_at_call 24; (with_reducible refine (HRC.out _ (Ext.trans kk ((by repeat (first | assumption | exact Ext.refl _ | refine Ext.alloc ?_ _ | refine Ext.drew ?_ | refine Ext.drewN ?_ _ | refine Ext.setCell ?_ (by first | (simp; done) | omega | (simp; omega)) _ | refine Ext.trans (by assumption) ?_))))).mono ?_); rintro e wb ⟨⟨A6, m6, c6, rfl, h6⟩, hxb⟩; have kb : Ext w6 wb := Ext.trans ((by repeat (first | assumption | exact Ext.refl _ | refine Ext.alloc ?_ _ | refine Ext.drew ?_ | refine Ext.drewN ?_ _ | refine Ext.setCell ?_ (by first | (simp; done) | omega | (simp; omega)) _ | refine Ext.trans (by assumption) ?_))) hxb) | (go_at_call 23; (with_reducible refine (rtsame_self A5 m5 c5 A6 m6 c6 cv _ (h5.ext ((by repeat (first | assumption | exact Ext.refl _ | refine Ext.alloc ?_ _ | refine Ext.drew ?_ | refine Ext.drewN ?_ _ | refine Ext.setCell ?_ (by first | (simp; done) | omega | (simp; omega)) _ | refine Ext.trans (by assumption) ?_)))) (h6.ext ((by repeat (first | assumption | exact Ext.refl _ | refine Ext.alloc ?_ _ | refine Ext.drew ?_ | refine Ext.drewN ?_ _ | refine Ext.setCell ?_ (by first | (simp; done) | omega | (simp; omega)) _ | refine Ext.trans (by assumption) ?_))))).mono ?_); rintro e wd ⟨rfl, hxd⟩; have kd : Ext w6 wd := Ext.trans ((by repeat (first | assumption | exact Ext.refl _ | refine Ext.alloc ?_ _ | refine Ext.drew ?_ | refine Ext.drewN ?_ _ | refine Ext.setCell ?_ (by first | (simp; done) | omega | (simp; omega)) _ | refine Ext.trans (by assumption) ?_))) hxd))
    all_goals
      go_wp2_with fail
      go_meet
      exact ⟨rfl, by assumption⟩
  case rest =>
    obtain ⟨rfl, hxc⟩ := hcut
    replace t0 := hxc.cell T0.out
    have u0 := hxc.cell U0.out
    have rR := rangeAt_ext RR.out hxc
    have rU := rangeAt_ext RU.out hxc
    replace kk := kk.trans hxc
    clear T0 U0 RR RU HC HRC hxc
    generalize wc = w7 at *
    go_upto_region 11 with fail
    have T0 := Lib.hid t0
    have U0 := Lib.hid u0
    have RR := Lib.hid rR
    have RU := Lib.hid rU
    clear rR rU u0
    go_cut [25] (fun q wx => q = .bool true ∧ Ext w7 wx)
    case first =>
      go_region_held3 (fun w' => w'.cell? ⟨w.heap.size, 0, none⟩ = some (.slice tA tn tc)) (first | go_keep | exact Ext.cell ((by repeat (first | assumption | exact Ext.refl _ | refine Ext.alloc ?_ _ | refine Ext.drew ?_ | refine Ext.drewN ?_ _ | refine Ext.setCell ?_ (by first | (simp; done) | omega | (simp; omega)) _ | refine Ext.trans (by assumption) ?_))) T0.out) (first | (go_at_call 17; (with_reducible refine (HK.out _ (Ext.trans kk ((by repeat (first | assumption | exact Ext.refl _ | refine Ext.alloc ?_ _ | refine Ext.drew ?_ | refine Ext.drewN ?_ _ | refine Ext.setCell ?_ (by first | (simp; done) | omega | (simp; omega)) _ | refine Ext.trans (by assumption) ?_))))).mono ?_); rintro e wa ⟨⟨va, rfl, ⟨A5, m5, c5, rfl, h5⟩⟩, hxa⟩; have ka : Ext w7 wa := Ext.trans ((by repeat (first | assumption | exact Ext.refl _ | refine Ext.alloc ?_ _ | refine Ext.drew ?_ | refine Ext.drewN ?_ _ | refine Ext.setCell ?_ (by first | (simp; done) | omega | (simp; omega)) _ | refine Ext.trans (by assumption) ?_))) hxa) | (go_at_call 26; (with_reducible refine (HRK.out _ (Ext.trans kk ((by repeat (first | assumption | exact Ext.refl _ | refine Ext.alloc ?_ _ | refine Ext.drew ?_ | refine Ext.drewN ?_ _ | refine Ext.setCell ?_ (by first | (simp; done) | omega | (simp; omega)) _ | refine Ext.trans (by assumption) ?_))))).mono ?_); rintro e wb ⟨⟨vb, rfl, ⟨A6, m6, c6, rfl, h6⟩⟩, hxb⟩; have kb : Ext w7 wb := Ext.trans ((by repeat (first | assumption | exact Ext.refl _ | refine Ext.alloc ?_ _ | refine Ext.drew ?_ | refine Ext.drewN ?_ _ | refine Ext.setCell ?_ (by first | (simp; done) | omega | (simp; omega)) _ | refine Ext.trans (by assumption) ?_))) hxb) | (go_at_call 25; (with_reducible refine (ints_self kv A5 m5 c5 A6 m6 c6 _ (h5.ext ((by repeat (first | assumption | exact Ext.refl _ | refine Ext.alloc ?_ _ | refine Ext.drew ?_ | refine Ext.drewN ?_ _ | refine Ext.setCell ?_ (by first | (simp; done) | omega | (simp; omega)) _ | refine Ext.trans (by assumption) ?_)))) (h6.ext ((by repeat (first | assumption | exact Ext.refl _ | refine Ext.alloc ?_ _ | refine Ext.drew ?_ | refine Ext.drewN ?_ _ | refine Ext.setCell ?_ (by first | (simp; done) | omega | (simp; omega)) _ | refine Ext.trans (by assumption) ?_))))).mono ?_); rintro e wd ⟨rfl, hxd⟩; have kd : Ext w7 wd := Ext.trans ((by repeat (first | assumption | exact Ext.refl _ | refine Ext.alloc ?_ _ | refine Ext.drew ?_ | refine Ext.drewN ?_ _ | refine Ext.setCell ?_ (by first | (simp; done) | omega | (simp; omega)) _ | refine Ext.trans (by assumption) ?_))) hxd))
      all_goals
        go_wp2_with fail
        go_meet
        exact ⟨rfl, by assumption⟩
    case rest =>
      obtain ⟨rfl, hxc⟩ := hcut
      replace t0 := hxc.cell T0.out
      have u0 := hxc.cell U0.out
      have rU := rangeAt_ext RU.out hxc
      replace kk := kk.trans hxc
      clear T0 U0 RR RU HK HRK hxc
      generalize wc = w8 at *
      go_wp2_with fail
      refine (HRM.out _ kk).mono ?_
      rintro e9 w9 ⟨rfl, hx9⟩
      replace t0 := hx9.cell t0
      replace u0 := hx9.cell u0
      replace rU := rangeAt_ext rU hx9
      replace kk := kk.trans hx9
      clear hx9 HRM
      go_wp2_with fail
      refine (HRS.out _ kk).mono ?_
      rintro e10 w10 ⟨rfl, hx10⟩
      replace t0 := hx10.cell t0
      replace u0 := hx10.cell u0
      replace rU := rangeAt_ext rU hx10
      replace kk := kk.trans hx10
      clear hx10 HRS
      go_wp2_with fail
      refine (HRA.out _ kk).mono ?_
      rintro e11 w11 ⟨rfl, hx11⟩
      replace t0 := hx11.cell t0
      replace u0 := hx11.cell u0
      replace rU := rangeAt_ext rU hx11
      replace kk := kk.trans hx11
      clear hx11 HRA
      have ge : (pe == pe) = true := by simp
      have ga : (av == av) = true := by simp
      have gf : (fv == fv) = true := by simp
      go_wp2
      have z0 := fun p => cell_in t0 p
      have z1 := fun p => cell_in u0 p
      refine wp_region_quiet_below (by kernel_rfl) (by kernel_rfl) ?_
      repeat (first | go_big_quiet_skip | (go_big_quiet_want; first | ((refine quiet_load_mid 32 _ rfl _ _ rfl (rootC b.up) _ (fun W ⟨p, hp⟩ => hp ▸ rangeAt_ext rU (ext_regrown _ p)) Try.underlying32 rfl hu32 ?_); (try simp only [Act.put, List.setIfInBounds_toArray, List.set_cons_zero, List.set_cons_succ]); go_big_quiet_on) | (go_big_quiet_op; first | go_big_quiet_on | go_big_quiet_call (first | (go_at_call 12; exact regrown_ext (HM.out _ (Ext.trans kk (ext_regrown _ _)))) | (go_at_call 19; exact regrown_ext (HS.out _ (Ext.trans kk (ext_regrown _ _)))) | (go_at_call 13; exact regrown_ext (HA.out _ (Ext.trans kk (ext_regrown _ _)))) | (go_at_call 14; exact regrown_ext (HT.out _ (Ext.trans kk (ext_regrown _ _)))) | (go_at_call 29; exact regrown_ext (HRT.out _ (Ext.trans kk (ext_regrown _ _)))) | (go_at_call 16; exact regrown_ext (HF.out _ (Ext.trans kk (ext_regrown _ _)))) | (go_at_call 30; exact regrown_ext (HRF.out _ (Ext.trans kk (ext_regrown _ _))))))))
      refine wpQuiet_nil ?_
      intro _ hw'
      obtain ⟨pq, hw''⟩ := hw'
      subst hw''
      go_wp2
      go_ret
      exact ⟨rfl, kk.trans (ext_regrown _ _)⟩
set_option maxRecDepth 100000 in
theorem TreeTells_lifted (os : Os) (started : os.Started) (H : Type) (enc : TypeId × Value → H) :
    ReturnsInHanded {} Try.checked os 10 .any (Rows.treeTellsSpec.pre6 enc Try.prog Try.f10 Rows.treeTellsRow.domain false) (Rows.treeTellsSpec.post enc Try.prog Try.f10 false true false false) := by
  refine returnsInHanded_of_change_sized (C := Try.checked) own started (by kernel_rfl) Try.func10
    (ChangeSpec.witness6 (enc := enc) (C := Try.checked) false ⟨#[], #[.agg #[.slice none 0 0], .agg #[.slice none 0 0], .agg (Block.cells Block.zero).toArray, .int .i64 0, .int .i64 0, .int .u64 0], []⟩ 8 (by kernel_rfl) (by kernel_rfl) (by kernel_rfl) (by kernel_rfl)) ?_
  intro W base args ds gs before hval0 hW _hcnd hsz0 _
  have hval : ∀ (j : Nat) t v, Try.f10.params[j]? = some t → args[j]? = some v → Value.okWide Try.prog W .any base t v := hval0
  have hsz : (DataW.weightsEach Try.prog (Try.f10.params.toList ++ Rows.treeTellsSpec.plain.varTypes Try.prog) (ds ++ gs)).all (· ≤ reachBytes) = true := hsz0
  have hW' := hW
  obtain ⟨p, q, hA0, hV, rfl, hfz, hnd⟩ := hW
  have hA : DataW.TrodAll enc Try.prog W 0 (fun _ => true) true Try.f10.params.toList args.toList ds p := hA0
  rw [Try.params10] at hA hval hsz
  obtain ⟨v0, vs0, d0, ds0, p0, q0, hargs, rfl, rfl, h0, r0⟩ := trodAll_cons hA
  obtain ⟨v1, vs1, d1, ds1, p1, q1, rfl, rfl, rfl, h1, r1⟩ := trodAll_cons r0
  obtain ⟨v2, vs2, d2, ds2, p2, q2, rfl, rfl, rfl, h2, r2⟩ := trodAll_cons r1
  obtain ⟨v3, vs3, d3, ds3, p3, q3, rfl, rfl, rfl, h3, r3⟩ := trodAll_cons r2
  obtain ⟨v4, vs4, d4, ds4, p4, q4, rfl, rfl, rfl, h4, r4⟩ := trodAll_cons r3
  obtain ⟨v5, vs5, d5, ds5, p5, q5, rfl, rfl, rfl, h5, r5⟩ := trodAll_cons r4
  obtain ⟨rfl, rfl, rfl⟩ := trodAll_nil r5
  obtain rfl : args = #[v0, v1, v2, v3, v4, v5] := by cases args; simp_all
  obtain ⟨rfl, rfl⟩ := trodVars_none hV
  have h0k := h0
  have h1k := h1
  have h2k := h2
  have h3k := h3
  have h4k := h4
  have h5k := h5
  have hlt0 : ∀ x ∈ p0, x.block < W.heap.size := fun x hx => by have := hW'.lt x (by simp [hx]); simpa using this
  have hlt1 : ∀ x ∈ p1, x.block < W.heap.size := fun x hx => by have := hW'.lt x (by simp [hx]); simpa using this
  have hlt2 : ∀ x ∈ p2, x.block < W.heap.size := fun x hx => by have := hW'.lt x (by simp [hx]); simpa using this
  have hlt3 : ∀ x ∈ p3, x.block < W.heap.size := fun x hx => by have := hW'.lt x (by simp [hx]); simpa using this
  have hlt4 : ∀ x ∈ p4, x.block < W.heap.size := fun x hx => by have := hW'.lt x (by simp [hx]); simpa using this
  have hlt5 : ∀ x ∈ p5, x.block < W.heap.size := fun x hx => by have := hW'.lt x (by simp [hx]); simpa using this
  obtain ⟨tA, tn, tc, t, rfl, ht⟩ := open_tree (hval 0 24 v0 rfl rfl) h0 hsz (j := 0) rfl rfl
  obtain ⟨uA, un, uc, u, rfl, hu⟩ := open_tree (hval 1 24 v1 rfl rfl) h1 hsz (j := 1) rfl rfl
  obtain ⟨b, rfl, hb⟩ := open_block (hval 2 44 v2 rfl rfl) h2
  obtain ⟨i, rfl, hi1, hi2⟩ := open_I64 Try.underlying3 (hval 3 3 v3 rfl rfl) h3
  obtain ⟨k, rfl, hk1, hk2⟩ := open_I64 Try.underlying3 (hval 4 3 v4 rfl rfl) h4
  obtain ⟨slot, rfl, hslot⟩ := open_U64 Try.underlying29 (hval 5 29 v5 rfl rfl) h5
  clear hA0 hval0
  simp only [List.append_nil] at hW'
  refine (TreeTells_walk tA tn tc t ht uA un uc u hu b hb i hi1 hi2 k hk1 hk2 slot hslot (w := W)).mono fun e W' ⟨he, hg⟩ => ?_
  subst he
  exact ⟨_, rfl, post_law (pa := p0 ++ (p1 ++ (p2 ++ (p3 ++ (p4 ++ (p5 ++ [])))))) (pv := []) hW' (fun _ _ _ => (trodAll_cons_mk (shut_bool Try.underlying4 _) trodAll_mk0))
    (trodAll_cons_mk (Below.trod laidOut (by kernel_rfl) (of_decide_eq_true (by kernel_rfl)) h0k hg.out hlt0) (trodAll_cons_mk (Below.trod laidOut (by kernel_rfl) (of_decide_eq_true (by kernel_rfl)) h1k hg.out hlt1) (trodAll_cons_mk (Below.trod laidOut (by kernel_rfl) (of_decide_eq_true (by kernel_rfl)) h2k hg.out hlt2) (trodAll_cons_mk (Below.trod laidOut (by kernel_rfl) (of_decide_eq_true (by kernel_rfl)) h3k hg.out hlt3) (trodAll_cons_mk (Below.trod laidOut (by kernel_rfl) (of_decide_eq_true (by kernel_rfl)) h4k hg.out hlt4) (trodAll_cons_mk (Below.trod laidOut (by kernel_rfl) (of_decide_eq_true (by kernel_rfl)) h5k hg.out hlt5) trodAll_mk0)))))) rfl (by simp) hg⟩
theorem TreeTells_holds : Rows.TreeTellsSaid :=
  OpenClaim.holds_of_wide 10 Try.f10 rfl rfl rfl rfl rfl rfl rfl ⟨rfl, rfl, rfl, rfl, rfl⟩ rfl rfl rfl rfl rfl (by kernel_rfl) Try.func10 (by kernel_rfl)
    (of_decide_eq_true (by kernel_rfl)) (by unfold Func.isWrapper; first | (rw [if_pos (by decide +kernel)]; kernel_rfl) | (rw [if_neg (by decide +kernel)]; exact ⟨rfl, rfl⟩))
    (fun os started H enc _ => TreeTells_lifted os started H enc)
#print axioms TreeTells_holds
end Go.Proofs.Ytoifhpcpahfddaa
