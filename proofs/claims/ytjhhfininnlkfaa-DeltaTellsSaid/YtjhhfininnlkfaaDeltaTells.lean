/- DeltaTells: what each block of any tree has of any votes, what all weigh, and what comes, and goes, is what the document says; for every input. -/
import Derived.Test.YtjhhfininnlkfaaDeltaAwake
import Derived.Test.YtjhhfininnlkfaaDeltaRefOf
namespace Go.Proofs.Ytjhhfininnlkfaa
open Go.RowKit Go.WideShapes Go.ChangeShapes Go.Joins Go.Deep
set_option linter.unusedVariables false
set_option linter.unusedSimpArgs false









theorem same_true (l : List Int) (A : Option Addr) (n c : Nat) (B : Option Addr) (m d : Nat) (w : World) (h : Ints w .u64 A n c l) (g : Ints w .u64 B m d l) : Calls Try.prog 14 #[.slice A n c, .slice B m d] w fun e w' => e = .returned (.bool true) ∧ Ext w w' := by
  have k := rsame64_any A n c B m d l l w h g
  rw [decide_eq_true rfl] at k
  exact k
set_option maxRecDepth 8000 in
set_option maxHeartbeats 4000000 in
theorem DeltaTells_walk {w : World} (tA : Option Addr) (tn tc : Nat) (t : List Node) (ht : NL w tA tn tc t) (vA : Option Addr) (vn vc : Nat) (v : List Lat) (vo : Nat) (hvo : vo < 18446744073709551616) (hv : VL w vA vn vc v) (uA : Option Addr) (un uc : Nat) (u : List Lat) (uo : Nat) (huo : uo < 18446744073709551616) (hu : VL w uA un uc u) (LA : Option Addr) (ln lc : Nat) (l : List Int) (hl : Ints w .u64 LA ln lc l) :
    Calls Try.prog 3 #[.agg #[.slice tA tn tc], .agg #[.slice vA vn vc, .int .u64 vo], .agg #[.slice uA un uc, .int .u64 uo], .slice LA ln lc] w fun e' w' => e' = .returned (.bool true) ∧ Ext w w' := by
  have HAW := Lib.hid (fun W => awake_any W)
  by_cases h1 : 20 < tn
  · have g1 : (20 : Int) < tn := by omega
    clear ht hv hu hl
    go_enter Try.func3, Try.ntmps3
    go_wp2_with fail
    refine (HAW.out _).mono ?_
    rintro e0 w0 ⟨rfl, hx0⟩
    have k0 : Ext w w0 := Ext.trans ((by repeat (first | assumption | exact Ext.refl _ | refine Ext.alloc ?_ _ | refine Ext.drew ?_ | refine Ext.drewN ?_ _ | refine Ext.setCell ?_ (by first | (simp; done) | omega | (simp; omega)) _ | refine Ext.trans (by assumption) ?_))) hx0
    have t0 := hx0.cell (p := ⟨w.heap.size, 0, none⟩) (v := .slice tA tn tc) (by first | (simp; done) | (simp (maxDischargeDepth := 7) [go_sem]; done))
    have v0 := hx0.cell (p := ⟨w.heap.size + 1, 0, none⟩) (v := .slice vA vn vc) (by first | (simp; done) | (simp (maxDischargeDepth := 7) [go_sem]; done))
    have v1 := hx0.cell (p := ⟨w.heap.size + 1, 1, none⟩) (v := .int .u64 vo) (by first | (simp; done) | (simp (maxDischargeDepth := 7) [go_sem]; done))
    have u0 := hx0.cell (p := ⟨w.heap.size + 1 + 1, 0, none⟩) (v := .slice uA un uc) (by first | (simp; done) | (simp (maxDischargeDepth := 7) [go_sem]; done))
    have u1 := hx0.cell (p := ⟨w.heap.size + 1 + 1, 1, none⟩) (v := .int .u64 uo) (by first | (simp; done) | (simp (maxDischargeDepth := 7) [go_sem]; done))
    go_wp2
    go_ret
    exact ⟨rfl, k0⟩
  have g1 : ¬ (20 : Int) < tn := by omega
  by_cases h2 : 20 < vn
  · have g2 : (20 : Int) < vn := by omega
    clear ht hv hu hl
    go_enter Try.func3, Try.ntmps3
    go_wp2_with fail
    refine (HAW.out _).mono ?_
    rintro e0 w0 ⟨rfl, hx0⟩
    have k0 : Ext w w0 := Ext.trans ((by repeat (first | assumption | exact Ext.refl _ | refine Ext.alloc ?_ _ | refine Ext.drew ?_ | refine Ext.drewN ?_ _ | refine Ext.setCell ?_ (by first | (simp; done) | omega | (simp; omega)) _ | refine Ext.trans (by assumption) ?_))) hx0
    have t0 := hx0.cell (p := ⟨w.heap.size, 0, none⟩) (v := .slice tA tn tc) (by first | (simp; done) | (simp (maxDischargeDepth := 7) [go_sem]; done))
    have v0 := hx0.cell (p := ⟨w.heap.size + 1, 0, none⟩) (v := .slice vA vn vc) (by first | (simp; done) | (simp (maxDischargeDepth := 7) [go_sem]; done))
    have v1 := hx0.cell (p := ⟨w.heap.size + 1, 1, none⟩) (v := .int .u64 vo) (by first | (simp; done) | (simp (maxDischargeDepth := 7) [go_sem]; done))
    have u0 := hx0.cell (p := ⟨w.heap.size + 1 + 1, 0, none⟩) (v := .slice uA un uc) (by first | (simp; done) | (simp (maxDischargeDepth := 7) [go_sem]; done))
    have u1 := hx0.cell (p := ⟨w.heap.size + 1 + 1, 1, none⟩) (v := .int .u64 uo) (by first | (simp; done) | (simp (maxDischargeDepth := 7) [go_sem]; done))
    go_wp2
    go_ret
    exact ⟨rfl, k0⟩
  have g2 : ¬ (20 : Int) < vn := by omega
  by_cases h3 : 20 < un
  · have g3 : (20 : Int) < un := by omega
    clear ht hv hu hl
    go_enter Try.func3, Try.ntmps3
    go_wp2_with fail
    refine (HAW.out _).mono ?_
    rintro e0 w0 ⟨rfl, hx0⟩
    have k0 : Ext w w0 := Ext.trans ((by repeat (first | assumption | exact Ext.refl _ | refine Ext.alloc ?_ _ | refine Ext.drew ?_ | refine Ext.drewN ?_ _ | refine Ext.setCell ?_ (by first | (simp; done) | omega | (simp; omega)) _ | refine Ext.trans (by assumption) ?_))) hx0
    have t0 := hx0.cell (p := ⟨w.heap.size, 0, none⟩) (v := .slice tA tn tc) (by first | (simp; done) | (simp (maxDischargeDepth := 7) [go_sem]; done))
    have v0 := hx0.cell (p := ⟨w.heap.size + 1, 0, none⟩) (v := .slice vA vn vc) (by first | (simp; done) | (simp (maxDischargeDepth := 7) [go_sem]; done))
    have v1 := hx0.cell (p := ⟨w.heap.size + 1, 1, none⟩) (v := .int .u64 vo) (by first | (simp; done) | (simp (maxDischargeDepth := 7) [go_sem]; done))
    have u0 := hx0.cell (p := ⟨w.heap.size + 1 + 1, 0, none⟩) (v := .slice uA un uc) (by first | (simp; done) | (simp (maxDischargeDepth := 7) [go_sem]; done))
    have u1 := hx0.cell (p := ⟨w.heap.size + 1 + 1, 1, none⟩) (v := .int .u64 uo) (by first | (simp; done) | (simp (maxDischargeDepth := 7) [go_sem]; done))
    go_wp2
    go_ret
    exact ⟨rfl, k0⟩
  have g3 : ¬ (20 : Int) < un := by omega
  by_cases h4 : 20 < ln
  · have g4 : (20 : Int) < ln := by omega
    clear ht hv hu hl
    go_enter Try.func3, Try.ntmps3
    go_wp2_with fail
    refine (HAW.out _).mono ?_
    rintro e0 w0 ⟨rfl, hx0⟩
    have k0 : Ext w w0 := Ext.trans ((by repeat (first | assumption | exact Ext.refl _ | refine Ext.alloc ?_ _ | refine Ext.drew ?_ | refine Ext.drewN ?_ _ | refine Ext.setCell ?_ (by first | (simp; done) | omega | (simp; omega)) _ | refine Ext.trans (by assumption) ?_))) hx0
    have t0 := hx0.cell (p := ⟨w.heap.size, 0, none⟩) (v := .slice tA tn tc) (by first | (simp; done) | (simp (maxDischargeDepth := 7) [go_sem]; done))
    have v0 := hx0.cell (p := ⟨w.heap.size + 1, 0, none⟩) (v := .slice vA vn vc) (by first | (simp; done) | (simp (maxDischargeDepth := 7) [go_sem]; done))
    have v1 := hx0.cell (p := ⟨w.heap.size + 1, 1, none⟩) (v := .int .u64 vo) (by first | (simp; done) | (simp (maxDischargeDepth := 7) [go_sem]; done))
    have u0 := hx0.cell (p := ⟨w.heap.size + 1 + 1, 0, none⟩) (v := .slice uA un uc) (by first | (simp; done) | (simp (maxDischargeDepth := 7) [go_sem]; done))
    have u1 := hx0.cell (p := ⟨w.heap.size + 1 + 1, 1, none⟩) (v := .int .u64 uo) (by first | (simp; done) | (simp (maxDischargeDepth := 7) [go_sem]; done))
    go_wp2
    go_ret
    exact ⟨rfl, k0⟩
  have g4 : ¬ (20 : Int) < ln := by omega
  have HO := Lib.hid (fun W (k : Ext w W) => down_any tA tn tc t vA vn vc vo v hvo LA ln lc l W (ht.ext k) (hv.ext k) (hl.ext k))
  have HRO := Lib.hid (fun W (k : Ext w W) => r14own_any tA tn tc t vA vn vc vo v hvo LA ln lc l W (ht.ext k) (hv.ext k) (hl.ext k))
  have HW := Lib.hid (fun W (k : Ext w W) => dweights_any tA tn tc t vA vn vc vo v hvo LA ln lc l W (ht.ext k) (hv.ext k) (hl.ext k))
  have HRW := Lib.hid (fun W (k : Ext w W) => r14weights_any tA tn tc t vA vn vc vo v hvo LA ln lc l W (ht.ext k) (hv.ext k) (hl.ext k))
  have HF := Lib.hid (fun W (k : Ext w W) => dof_any tA tn tc t vA vn vc vo v hvo uA un uc uo u huo LA ln lc l W (ht.ext k) (hv.ext k) (hu.ext k) (hl.ext k))
  have HRF := Lib.hid (fun W (k : Ext w W) => r14of_any tA tn tc t vA vn vc vo v hvo uA un uc uo u huo LA ln lc l W (ht.ext k) (hv.ext k) (hu.ext k) (hl.ext k))
  clear ht hv hu hl h1 h2 h3 h4
  generalize Delta.fitV t v vo l = q1 at *
  generalize Delta.ownV t v vo l = ol at *
  generalize (Delta.heavyV t v vo l).isSome = q2 at *
  generalize (Delta.heavyV t v vo l).getD [] = wl at *
  generalize Delta.fit2 t v vo u uo l = q3 at *
  generalize Delta.cameV t v vo u uo l = cl at *
  generalize Delta.wentV t v vo u uo l = gl at *
  go_enter Try.func3, Try.ntmps3
  go_wp2_with fail
  refine (HAW.out _).mono ?_
  rintro e0 w0 ⟨rfl, hx0⟩
  have k0 : Ext w w0 := Ext.trans ((by repeat (first | assumption | exact Ext.refl _ | refine Ext.alloc ?_ _ | refine Ext.drew ?_ | refine Ext.drewN ?_ _ | refine Ext.setCell ?_ (by first | (simp; done) | omega | (simp; omega)) _ | refine Ext.trans (by assumption) ?_))) hx0
  have t0 := hx0.cell (p := ⟨w.heap.size, 0, none⟩) (v := .slice tA tn tc) (by first | (simp; done) | (simp (maxDischargeDepth := 7) [go_sem]; done))
  have v0 := hx0.cell (p := ⟨w.heap.size + 1, 0, none⟩) (v := .slice vA vn vc) (by first | (simp; done) | (simp (maxDischargeDepth := 7) [go_sem]; done))
  have v1 := hx0.cell (p := ⟨w.heap.size + 1, 1, none⟩) (v := .int .u64 vo) (by first | (simp; done) | (simp (maxDischargeDepth := 7) [go_sem]; done))
  have u0 := hx0.cell (p := ⟨w.heap.size + 1 + 1, 0, none⟩) (v := .slice uA un uc) (by first | (simp; done) | (simp (maxDischargeDepth := 7) [go_sem]; done))
  have u1 := hx0.cell (p := ⟨w.heap.size + 1 + 1, 1, none⟩) (v := .int .u64 uo) (by first | (simp; done) | (simp (maxDischargeDepth := 7) [go_sem]; done))
  clear HAW hx0
  go_wp2_with fail
  refine (HO.out _ k0).mono ?_
  rintro e w1 ⟨⟨x, rfl, ⟨A1, n1, c1, rfl, h1⟩⟩, hx1⟩
  have kk := k0.trans hx1
  replace t0 := hx1.cell t0
  replace v0 := hx1.cell v0
  replace v1 := hx1.cell v1
  replace u0 := hx1.cell u0
  replace u1 := hx1.cell u1
  have H1 := Lib.hid (fun W (k : Ext w1 W) => h1.ext k)
  clear hx1 HO k0 h1
  go_wp2_with fail
  refine (HRO.out _ kk).mono ?_
  rintro e w2 ⟨⟨x, rfl, ⟨A2, n2, c2, rfl, h2⟩⟩, hx2⟩
  have H2 := Lib.hid (fun W (k : Ext w2 W) => same_true ol A1 n1 c1 A2 n2 c2 W (H1.out W (hx2.trans k)) (h2.ext k))
  replace kk := kk.trans hx2
  replace t0 := hx2.cell t0
  replace v0 := hx2.cell v0
  replace v1 := hx2.cell v1
  replace u0 := hx2.cell u0
  replace u1 := hx2.cell u1
  clear hx2 HRO H1 h2
  go_wp2_with fail
  refine (HW.out _ kk).mono ?_
  rintro e w3 ⟨⟨x, rfl, ⟨A3, n3, c3, rfl, h3⟩⟩, hx3⟩
  have e3 := hx3
  replace kk := kk.trans hx3
  replace t0 := hx3.cell t0
  replace v0 := hx3.cell v0
  replace v1 := hx3.cell v1
  replace u0 := hx3.cell u0
  replace u1 := hx3.cell u1
  have H3 := Lib.hid (fun W (k : Ext w3 W) => h3.ext k)
  clear hx3 HW h3
  go_wp2_with fail
  refine (HRW.out _ kk).mono ?_
  rintro e w4 ⟨⟨x, rfl, ⟨A4, n4, c4, rfl, h4⟩⟩, hx4⟩
  have H4 := Lib.hid (fun W (k : Ext w4 W) => same_true wl A3 n3 c3 A4 n4 c4 W (H3.out W (hx4.trans k)) (h4.ext k))
  have e4 := e3.trans hx4
  replace kk := kk.trans hx4
  replace t0 := hx4.cell t0
  replace v0 := hx4.cell v0
  replace v1 := hx4.cell v1
  replace u0 := hx4.cell u0
  replace u1 := hx4.cell u1
  clear hx4 HRW H3 h4 e3
  go_wp2_with fail
  refine (HF.out _ kk).mono ?_
  rintro e w5 ⟨⟨x, y, rfl, ⟨A5, n5, c5, rfl, h5⟩, ⟨A6, n6, c6, rfl, h6⟩⟩, hx5⟩
  have e5 := e4.trans hx5
  have f5 := hx5
  replace kk := kk.trans hx5
  replace t0 := hx5.cell t0
  replace v0 := hx5.cell v0
  replace v1 := hx5.cell v1
  replace u0 := hx5.cell u0
  replace u1 := hx5.cell u1
  have H5 := Lib.hid (fun W (k : Ext w5 W) => h5.ext k)
  have H6 := Lib.hid (fun W (k : Ext w5 W) => h6.ext k)
  clear hx5 HF h5 h6 e4
  go_wp2_with fail
  refine (HRF.out _ kk).mono ?_
  rintro e w6 ⟨⟨x, y, rfl, ⟨A7, n7, c7, rfl, h7⟩, ⟨A8, n8, c8, rfl, h8⟩⟩, hx6⟩
  have H7 := Lib.hid (fun W (k : Ext w6 W) => same_true cl A5 n5 c5 A7 n7 c7 W (H5.out W (hx6.trans k)) (h7.ext k))
  have H8 := Lib.hid (fun W (k : Ext w6 W) => same_true gl A6 n6 c6 A8 n8 c8 W (H6.out W (hx6.trans k)) (h8.ext k))
  have e6 := e5.trans hx6
  have f6 := f5.trans hx6
  replace kk := kk.trans hx6
  clear hx6 HRF H5 H6 h7 h8 t0 v0 v1 u0 u1 e5 f5
  go_wp2_with fail
  refine (H2.out _ e6).mono ?_
  rintro e w7 ⟨rfl, hx7⟩
  clear H2
  go_wp2_with fail
  refine (H4.out _ (f6.trans hx7)).mono ?_
  rintro e w8 ⟨rfl, hx8⟩
  clear H4
  go_wp2_with fail
  refine (H7.out _ (hx7.trans hx8)).mono ?_
  rintro e w9 ⟨rfl, hx9⟩
  go_wp2_with fail
  refine (H8.out _ (hx7.trans (hx8.trans hx9))).mono ?_
  rintro e w10 ⟨rfl, hx10⟩
  go_wp2
  go_ret
  exact ⟨by simp, kk.trans (hx7.trans (hx8.trans (hx9.trans hx10)))⟩
set_option maxRecDepth 100000 in
theorem DeltaTells_lifted (os : Os) (started : os.Started) (H : Type) (enc : TypeId × Value → H) :
    ReturnsInHanded {} Try.checked os 3 .any (Rows.deltaTellsSpec.pre6 enc Try.prog Try.f3 Rows.deltaTellsRow.domain false) (Rows.deltaTellsSpec.post enc Try.prog Try.f3 false true false false) := by
  refine returnsInHanded_of_change_sized (C := Try.checked) own started (by kernel_rfl) Try.func3
    (ChangeSpec.witness6 (enc := enc) (C := Try.checked) false ⟨#[], #[.agg #[.slice none 0 0], .agg #[.slice none 0 0, .int .u64 0], .agg #[.slice none 0 0, .int .u64 0], .slice none 0 0], []⟩ 8 (by kernel_rfl) (by kernel_rfl) (by kernel_rfl) (by kernel_rfl)) ?_
  intro W base args ds gs before hval0 hW _hcnd hsz0 _
  have hval : ∀ (j : Nat) t v, Try.f3.params[j]? = some t → args[j]? = some v → Value.okWide Try.prog W .any base t v := hval0
  have hsz : (DataW.weightsEach Try.prog (Try.f3.params.toList ++ Rows.deltaTellsSpec.plain.varTypes Try.prog) (ds ++ gs)).all (· ≤ reachBytes) = true := hsz0
  have hW' := hW
  obtain ⟨p, q, hA0, hV, rfl, hfz, hnd⟩ := hW
  have hA : DataW.TrodAll enc Try.prog W 0 (fun _ => true) true Try.f3.params.toList args.toList ds p := hA0
  rw [Try.params3] at hA hval hsz
  obtain ⟨v0, vs0, d0, ds0, p0, q0, hargs, rfl, rfl, h0, r0⟩ := trodAll_cons hA
  obtain ⟨v1, vs1, d1, ds1, p1, q1, rfl, rfl, rfl, h1, r1⟩ := trodAll_cons r0
  obtain ⟨v2, vs2, d2, ds2, p2, q2, rfl, rfl, rfl, h2, r2⟩ := trodAll_cons r1
  obtain ⟨v3, vs3, d3, ds3, p3, q3, rfl, rfl, rfl, h3, r3⟩ := trodAll_cons r2
  obtain ⟨rfl, rfl, rfl⟩ := trodAll_nil r3
  obtain rfl : args = #[v0, v1, v2, v3] := by cases args; simp_all
  obtain ⟨rfl, rfl⟩ := trodVars_none hV
  have h0k := h0
  have h1k := h1
  have h2k := h2
  have h3k := h3
  have hlt0 : ∀ x ∈ p0, x.block < W.heap.size := fun x hx => by have := hW'.lt x (by simp [hx]); simpa using this
  have hlt1 : ∀ x ∈ p1, x.block < W.heap.size := fun x hx => by have := hW'.lt x (by simp [hx]); simpa using this
  have hlt2 : ∀ x ∈ p2, x.block < W.heap.size := fun x hx => by have := hW'.lt x (by simp [hx]); simpa using this
  have hlt3 : ∀ x ∈ p3, x.block < W.heap.size := fun x hx => by have := hW'.lt x (by simp [hx]); simpa using this
  obtain ⟨tA, tn, tc, t, rfl, ht⟩ := open_tree (hval 0 24 v0 rfl rfl) h0 hsz (j := 0) rfl rfl
  obtain ⟨wasA, wasn, wasc, was, waso, rfl, hwas, howas⟩ := open_votes (hval 1 28 v1 rfl rfl) h1 hsz (j := 1) rfl rfl
  obtain ⟨isA, isn, isc, is, iso, rfl, his, hois⟩ := open_votes (hval 2 28 v2 rfl rfl) h2 hsz (j := 2) rfl rfl
  obtain ⟨bal, balA, baln, balc, rfl, hbal⟩ := open_Ints Try.underlying29 Try.underlying26 (by kernel_rfl) (by kernel_rfl) (hval 3 29 v3 rfl rfl) h3 hsz (j := 3) rfl rfl
  clear hA0 hval0
  simp only [List.append_nil] at hW'
  refine (DeltaTells_walk tA tn tc t ht wasA wasn wasc was waso howas hwas isA isn isc is iso hois his balA baln balc bal hbal (w := W)).mono fun e W' ⟨he, hg⟩ => ?_
  subst he
  exact ⟨_, rfl, post_law (pa := p0 ++ (p1 ++ (p2 ++ (p3 ++ [])))) (pv := []) hW' (fun _ _ _ => (trodAll_cons_mk (shut_bool Try.underlying4 _) trodAll_mk0))
    (trodAll_cons_mk (Below.trod laidOut (by kernel_rfl) (of_decide_eq_true (by kernel_rfl)) h0k hg.out hlt0) (trodAll_cons_mk (Below.trod laidOut (by kernel_rfl) (of_decide_eq_true (by kernel_rfl)) h1k hg.out hlt1) (trodAll_cons_mk (Below.trod laidOut (by kernel_rfl) (of_decide_eq_true (by kernel_rfl)) h2k hg.out hlt2) (trodAll_cons_mk (Below.trod laidOut (by kernel_rfl) (of_decide_eq_true (by kernel_rfl)) h3k hg.out hlt3) trodAll_mk0)))) rfl (by simp) hg⟩
theorem DeltaTells_holds : Rows.DeltaTellsSaid :=
  OpenClaim.holds_of_wide 3 Try.f3 rfl rfl rfl rfl rfl rfl rfl ⟨rfl, rfl, rfl, rfl, rfl⟩ rfl rfl rfl rfl rfl (by kernel_rfl) Try.func3 (by kernel_rfl)
    (of_decide_eq_true (by kernel_rfl)) (by unfold Func.isWrapper; first | (rw [if_pos (by decide +kernel)]; kernel_rfl) | (rw [if_neg (by decide +kernel)]; exact ⟨rfl, rfl⟩))
    (fun os started H enc _ => DeltaTells_lifted os started H enc)
#print axioms DeltaTells_holds
end Go.Proofs.Ytjhhfininnlkfaa
