/- DeltaBack: the other way round what came goes, and what went comes; for every input. -/
import Derived.Test.YtjhhfininnlkfaaDeltaAwake
import Derived.Test.YtjhhfininnlkfaaLatOpen
namespace Go.Proofs.Ytjhhfininnlkfaa
open Go.RowKit Go.WideShapes Go.ChangeShapes Go.Joins Go.Deep
set_option linter.unusedVariables false
set_option linter.unusedSimpArgs false









theorem same_true (l : List Int) (A : Option Addr) (n c : Nat) (B : Option Addr) (m d : Nat) (w : World) (h : Ints w .u64 A n c l) (g : Ints w .u64 B m d l) : Calls Try.prog 14 #[.slice A n c, .slice B m d] w fun e w' => e = .returned (.bool true) ∧ Ext w w' := by
  have k := rsame64_any A n c B m d l l w h g
  rw [decide_eq_true rfl] at k
  exact k
set_option maxHeartbeats 4000000 in
theorem DeltaBack_walk {w : World} (tA : Option Addr) (tn tc : Nat) (t : List Node) (ht : NL w tA tn tc t) (vA : Option Addr) (vn vc : Nat) (v : List Lat) (vo : Nat) (hvo : vo < 18446744073709551616) (hv : VL w vA vn vc v) (uA : Option Addr) (un uc : Nat) (u : List Lat) (uo : Nat) (huo : uo < 18446744073709551616) (hu : VL w uA un uc u) (LA : Option Addr) (ln lc : Nat) (l : List Int) (hl : Ints w .u64 LA ln lc l) :
    Calls Try.prog 5 #[.agg #[.slice tA tn tc], .agg #[.slice vA vn vc, .int .u64 vo], .agg #[.slice uA un uc, .int .u64 uo], .slice LA ln lc] w fun e' w' => e' = .returned (.bool true) ∧ Ext w w' := by
  have HAW := Lib.hid (fun W => awake_any W)
  by_cases h1 : 20 < tn
  · have g1 : (20 : Int) < tn := by omega
    clear ht hv hu hl
    go_enter Try.func5, Try.ntmps5
    go_wp2_with fail
    refine (HAW.out _).mono ?_
    rintro e0 w0 ⟨rfl, hx0⟩
    have k0 : Ext w w0 := Ext.trans ((by repeat (first | assumption | exact Ext.refl _ | refine Ext.alloc ?_ _ | refine Ext.drew ?_ | refine Ext.drewN ?_ _ | refine Ext.setCell ?_ (by first | (simp; done) | omega | (simp; omega)) _ | refine Ext.trans (by assumption) ?_))) hx0
    have t0 := hx0.cell (p := ⟨w.heap.size, 0, none⟩) (v := .slice tA tn tc) (by first | (simp; done) | (simp (maxDischargeDepth := 7) [go_sem]; done))
    have v0 := hx0.cell (p := ⟨w.heap.size + 1, 0, none⟩) (v := .slice vA vn vc) (by first | (simp; done) | (simp (maxDischargeDepth := 7) [go_sem]; done))
    have v1 := hx0.cell (p := ⟨w.heap.size + 1, 1, none⟩) (v := .int .u64 vo) (by first | (simp; done) | (simp (maxDischargeDepth := 7) [go_sem]; done))
    have u0 := hx0.cell (p := ⟨w.heap.size + 1 + 1, 0, none⟩) (v := .slice uA un uc) (by first | (simp; done) | (simp (maxDischargeDepth := 7) [go_sem]; done))
    have u1 := hx0.cell (p := ⟨w.heap.size + 1 + 1, 1, none⟩) (v := .int .u64 uo) (by first | (simp; done) | (simp (maxDischargeDepth := 7) [go_sem]; done))
    go_wp2
    go_ret
    exact ⟨rfl, k0⟩
  have g1 : ¬ (20 : Int) < tn := by omega
  by_cases h2 : 20 < vn
  · have g2 : (20 : Int) < vn := by omega
    clear ht hv hu hl
    go_enter Try.func5, Try.ntmps5
    go_wp2_with fail
    refine (HAW.out _).mono ?_
    rintro e0 w0 ⟨rfl, hx0⟩
    have k0 : Ext w w0 := Ext.trans ((by repeat (first | assumption | exact Ext.refl _ | refine Ext.alloc ?_ _ | refine Ext.drew ?_ | refine Ext.drewN ?_ _ | refine Ext.setCell ?_ (by first | (simp; done) | omega | (simp; omega)) _ | refine Ext.trans (by assumption) ?_))) hx0
    have t0 := hx0.cell (p := ⟨w.heap.size, 0, none⟩) (v := .slice tA tn tc) (by first | (simp; done) | (simp (maxDischargeDepth := 7) [go_sem]; done))
    have v0 := hx0.cell (p := ⟨w.heap.size + 1, 0, none⟩) (v := .slice vA vn vc) (by first | (simp; done) | (simp (maxDischargeDepth := 7) [go_sem]; done))
    have v1 := hx0.cell (p := ⟨w.heap.size + 1, 1, none⟩) (v := .int .u64 vo) (by first | (simp; done) | (simp (maxDischargeDepth := 7) [go_sem]; done))
    have u0 := hx0.cell (p := ⟨w.heap.size + 1 + 1, 0, none⟩) (v := .slice uA un uc) (by first | (simp; done) | (simp (maxDischargeDepth := 7) [go_sem]; done))
    have u1 := hx0.cell (p := ⟨w.heap.size + 1 + 1, 1, none⟩) (v := .int .u64 uo) (by first | (simp; done) | (simp (maxDischargeDepth := 7) [go_sem]; done))
    go_wp2
    go_ret
    exact ⟨rfl, k0⟩
  have g2 : ¬ (20 : Int) < vn := by omega
  by_cases h3 : 20 < un
  · have g3 : (20 : Int) < un := by omega
    clear ht hv hu hl
    go_enter Try.func5, Try.ntmps5
    go_wp2_with fail
    refine (HAW.out _).mono ?_
    rintro e0 w0 ⟨rfl, hx0⟩
    have k0 : Ext w w0 := Ext.trans ((by repeat (first | assumption | exact Ext.refl _ | refine Ext.alloc ?_ _ | refine Ext.drew ?_ | refine Ext.drewN ?_ _ | refine Ext.setCell ?_ (by first | (simp; done) | omega | (simp; omega)) _ | refine Ext.trans (by assumption) ?_))) hx0
    have t0 := hx0.cell (p := ⟨w.heap.size, 0, none⟩) (v := .slice tA tn tc) (by first | (simp; done) | (simp (maxDischargeDepth := 7) [go_sem]; done))
    have v0 := hx0.cell (p := ⟨w.heap.size + 1, 0, none⟩) (v := .slice vA vn vc) (by first | (simp; done) | (simp (maxDischargeDepth := 7) [go_sem]; done))
    have v1 := hx0.cell (p := ⟨w.heap.size + 1, 1, none⟩) (v := .int .u64 vo) (by first | (simp; done) | (simp (maxDischargeDepth := 7) [go_sem]; done))
    have u0 := hx0.cell (p := ⟨w.heap.size + 1 + 1, 0, none⟩) (v := .slice uA un uc) (by first | (simp; done) | (simp (maxDischargeDepth := 7) [go_sem]; done))
    have u1 := hx0.cell (p := ⟨w.heap.size + 1 + 1, 1, none⟩) (v := .int .u64 uo) (by first | (simp; done) | (simp (maxDischargeDepth := 7) [go_sem]; done))
    go_wp2
    go_ret
    exact ⟨rfl, k0⟩
  have g3 : ¬ (20 : Int) < un := by omega
  have HO1 := Lib.hid (fun W (k : Ext w W) => dof_any tA tn tc t vA vn vc vo v hvo uA un uc uo u huo LA ln lc l W (ht.ext k) (hv.ext k) (hu.ext k) (hl.ext k))
  have HO2 := Lib.hid (fun W (k : Ext w W) => dof_any tA tn tc t uA un uc uo u huo vA vn vc vo v hvo LA ln lc l W (ht.ext k) (hu.ext k) (hv.ext k) (hl.ext k))
  have ef : Delta.fit2 t u uo v vo l = Delta.fit2 t v vo u uo l := by unfold Delta.fit2; rw [Bool.and_comm]
  have e1 : Delta.cameV t u uo v vo l = Delta.wentV t v vo u uo l := by unfold Delta.cameV Delta.wentV; rw [ef]
  have e2 : Delta.wentV t u uo v vo l = Delta.cameV t v vo u uo l := by unfold Delta.cameV Delta.wentV; rw [ef]
  rw [ef, e1, e2] at HO2
  clear ef e1 e2 ht hv hu hl h1 h2 h3
  generalize Delta.fit2 t v vo u uo l = q at *
  generalize Delta.cameV t v vo u uo l = cl at *
  generalize Delta.wentV t v vo u uo l = wl at *
  go_enter Try.func5, Try.ntmps5
  go_wp2_with fail
  refine (HAW.out _).mono ?_
  rintro e0 w0 ⟨rfl, hx0⟩
  have k0 : Ext w w0 := Ext.trans ((by repeat (first | assumption | exact Ext.refl _ | refine Ext.alloc ?_ _ | refine Ext.drew ?_ | refine Ext.drewN ?_ _ | refine Ext.setCell ?_ (by first | (simp; done) | omega | (simp; omega)) _ | refine Ext.trans (by assumption) ?_))) hx0
  have t0 := hx0.cell (p := ⟨w.heap.size, 0, none⟩) (v := .slice tA tn tc) (by first | (simp; done) | (simp (maxDischargeDepth := 7) [go_sem]; done))
  have v0 := hx0.cell (p := ⟨w.heap.size + 1, 0, none⟩) (v := .slice vA vn vc) (by first | (simp; done) | (simp (maxDischargeDepth := 7) [go_sem]; done))
  have v1 := hx0.cell (p := ⟨w.heap.size + 1, 1, none⟩) (v := .int .u64 vo) (by first | (simp; done) | (simp (maxDischargeDepth := 7) [go_sem]; done))
  have u0 := hx0.cell (p := ⟨w.heap.size + 1 + 1, 0, none⟩) (v := .slice uA un uc) (by first | (simp; done) | (simp (maxDischargeDepth := 7) [go_sem]; done))
  have u1 := hx0.cell (p := ⟨w.heap.size + 1 + 1, 1, none⟩) (v := .int .u64 uo) (by first | (simp; done) | (simp (maxDischargeDepth := 7) [go_sem]; done))
  clear HAW hx0
  go_wp2_with fail
  refine (HO1.out _ k0).mono ?_
  rintro e w1 ⟨⟨x, y, rfl, ⟨A1, n1, c1, rfl, h1⟩, ⟨A2, n2, c2, rfl, h2⟩⟩, hx1⟩
  have k1 := k0.trans hx1
  replace t0 := hx1.cell t0
  replace v0 := hx1.cell v0
  replace v1 := hx1.cell v1
  replace u0 := hx1.cell u0
  replace u1 := hx1.cell u1
  clear hx1 HO1 k0
  go_wp2_with fail
  refine (HO2.out _ k1).mono ?_
  rintro e w2 ⟨⟨x, y, rfl, ⟨A3, n3, c3, rfl, h3⟩, ⟨A4, n4, c4, rfl, h4⟩⟩, hx2⟩
  have k2 := k1.trans hx2
  have H1 := Lib.hid (fun W (k : Ext w2 W) => (h1.ext hx2).ext k)
  have H2 := Lib.hid (fun W (k : Ext w2 W) => (h2.ext hx2).ext k)
  have H3 := Lib.hid (fun W (k : Ext w2 W) => h3.ext k)
  have H4 := Lib.hid (fun W (k : Ext w2 W) => h4.ext k)
  clear h1 h2 h3 h4 hx2 HO2 k1
  go_wp2_with fail
  refine (same_true cl _ _ _ _ _ _ _ (H1.out _ (Ext.refl _)) (H4.out _ (Ext.refl _))).mono ?_
  rintro e w3 ⟨rfl, hx3⟩
  go_wp2_with fail
  refine (same_true wl _ _ _ _ _ _ _ (H2.out _ hx3) (H3.out _ hx3)).mono ?_
  rintro e w4 ⟨rfl, hx4⟩
  go_wp2
  go_ret
  exact ⟨by simp, k2.trans (hx3.trans hx4)⟩
set_option maxRecDepth 100000 in
theorem DeltaBack_lifted (os : Os) (started : os.Started) (H : Type) (enc : TypeId × Value → H) :
    ReturnsInHanded {} Try.checked os 5 .any (Rows.deltaBackSpec.pre6 enc Try.prog Try.f5 Rows.deltaBackRow.domain false) (Rows.deltaBackSpec.post enc Try.prog Try.f5 false true false false) := by
  refine returnsInHanded_of_change_sized (C := Try.checked) own started (by kernel_rfl) Try.func5
    (ChangeSpec.witness6 (enc := enc) (C := Try.checked) false ⟨#[], #[.agg #[.slice none 0 0], .agg #[.slice none 0 0, .int .u64 0], .agg #[.slice none 0 0, .int .u64 0], .slice none 0 0], []⟩ 8 (by kernel_rfl) (by kernel_rfl) (by kernel_rfl) (by kernel_rfl)) ?_
  intro W base args ds gs before hval0 hW _hcnd hsz0 _
  have hval : ∀ (j : Nat) t v, Try.f5.params[j]? = some t → args[j]? = some v → Value.okWide Try.prog W .any base t v := hval0
  have hsz : (DataW.weightsEach Try.prog (Try.f5.params.toList ++ Rows.deltaBackSpec.plain.varTypes Try.prog) (ds ++ gs)).all (· ≤ reachBytes) = true := hsz0
  have hW' := hW
  obtain ⟨p, q, hA0, hV, rfl, hfz, hnd⟩ := hW
  have hA : DataW.TrodAll enc Try.prog W 0 (fun _ => true) true Try.f5.params.toList args.toList ds p := hA0
  rw [Try.params5] at hA hval hsz
  obtain ⟨v0, vs0, d0, ds0, p0, q0, hargs, rfl, rfl, h0, r0⟩ := trodAll_cons hA
  obtain ⟨v1, vs1, d1, ds1, p1, q1, rfl, rfl, rfl, h1, r1⟩ := trodAll_cons r0
  obtain ⟨v2, vs2, d2, ds2, p2, q2, rfl, rfl, rfl, h2, r2⟩ := trodAll_cons r1
  obtain ⟨v3, vs3, d3, ds3, p3, q3, rfl, rfl, rfl, h3, r3⟩ := trodAll_cons r2
  obtain ⟨rfl, rfl, rfl⟩ := trodAll_nil r3
  obtain rfl : args = #[v0, v1, v2, v3] := by cases args; simp_all
  obtain ⟨rfl, rfl⟩ := trodVars_none hV
  have h0k := h0
  have h1k := h1
  have h2k := h2
  have h3k := h3
  have hlt0 : ∀ x ∈ p0, x.block < W.heap.size := fun x hx => by have := hW'.lt x (by simp [hx]); simpa using this
  have hlt1 : ∀ x ∈ p1, x.block < W.heap.size := fun x hx => by have := hW'.lt x (by simp [hx]); simpa using this
  have hlt2 : ∀ x ∈ p2, x.block < W.heap.size := fun x hx => by have := hW'.lt x (by simp [hx]); simpa using this
  have hlt3 : ∀ x ∈ p3, x.block < W.heap.size := fun x hx => by have := hW'.lt x (by simp [hx]); simpa using this
  obtain ⟨tA, tn, tc, t, rfl, ht⟩ := open_tree (hval 0 24 v0 rfl rfl) h0 hsz (j := 0) rfl rfl
  obtain ⟨wasA, wasn, wasc, was, waso, rfl, hwas, howas⟩ := open_votes (hval 1 28 v1 rfl rfl) h1 hsz (j := 1) rfl rfl
  obtain ⟨isA, isn, isc, is, iso, rfl, his, hois⟩ := open_votes (hval 2 28 v2 rfl rfl) h2 hsz (j := 2) rfl rfl
  obtain ⟨bal, balA, baln, balc, rfl, hbal⟩ := open_Ints Try.underlying29 Try.underlying26 (by kernel_rfl) (by kernel_rfl) (hval 3 29 v3 rfl rfl) h3 hsz (j := 3) rfl rfl
  clear hA0 hval0
  simp only [List.append_nil] at hW'
  refine (DeltaBack_walk tA tn tc t ht wasA wasn wasc was waso howas hwas isA isn isc is iso hois his balA baln balc bal hbal (w := W)).mono fun e W' ⟨he, hg⟩ => ?_
  subst he
  exact ⟨_, rfl, post_law (pa := p0 ++ (p1 ++ (p2 ++ (p3 ++ [])))) (pv := []) hW' (fun _ _ _ => (trodAll_cons_mk (shut_bool Try.underlying4 _) trodAll_mk0))
    (trodAll_cons_mk (Below.trod laidOut (by kernel_rfl) (of_decide_eq_true (by kernel_rfl)) h0k hg.out hlt0) (trodAll_cons_mk (Below.trod laidOut (by kernel_rfl) (of_decide_eq_true (by kernel_rfl)) h1k hg.out hlt1) (trodAll_cons_mk (Below.trod laidOut (by kernel_rfl) (of_decide_eq_true (by kernel_rfl)) h2k hg.out hlt2) (trodAll_cons_mk (Below.trod laidOut (by kernel_rfl) (of_decide_eq_true (by kernel_rfl)) h3k hg.out hlt3) trodAll_mk0)))) rfl (by simp) hg⟩
theorem DeltaBack_holds : Rows.DeltaBackSaid :=
  OpenClaim.holds_of_wide 5 Try.f5 rfl rfl rfl rfl rfl rfl rfl ⟨rfl, rfl, rfl, rfl, rfl⟩ rfl rfl rfl rfl rfl (by kernel_rfl) Try.func5 (by kernel_rfl)
    (of_decide_eq_true (by kernel_rfl)) (by unfold Func.isWrapper; first | (rw [if_pos (by decide +kernel)]; kernel_rfl) | (rw [if_neg (by decide +kernel)]; exact ⟨rfl, rfl⟩))
    (fun os started H enc _ => DeltaBack_lifted os started H enc)
#print axioms DeltaBack_holds
end Go.Proofs.Ytjhhfininnlkfaa
