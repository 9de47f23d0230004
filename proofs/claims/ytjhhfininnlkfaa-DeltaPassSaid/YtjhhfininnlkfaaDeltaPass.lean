/- DeltaPass: by what comes, and goes, one comes from what the ones weigh to what the others do; for every input. -/
import Derived.Test.YtjhhfininnlkfaaDeltaAwake
import Derived.Test.YtjhhfininnlkfaaDeltaLaw
import Derived.Test.YtjhhfininnlkfaaLatOpen
namespace Go.Proofs.Ytjhhfininnlkfaa
open Go.RowKit Go.WideShapes Go.ChangeShapes Go.Joins Go.Deep
set_option linter.unusedVariables false
set_option linter.unusedSimpArgs false









theorem same_true (l : List Int) (A : Option Addr) (n c : Nat) (B : Option Addr) (m d : Nat) (w : World) (h : Ints w .u64 A n c l) (g : Ints w .u64 B m d l) : Calls Try.prog 14 #[.slice A n c, .slice B m d] w fun e w' => e = .returned (.bool true) ∧ Ext w w' := by
  have k := rsame64_any A n c B m d l l w h g
  rw [decide_eq_true rfl] at k
  exact k
theorem dpass_is (A : Option Addr) (n c : Nat) (NS : List Node) (WA : Option Addr) (wn wc : Nat) (lw : List Int) (PA : Option Addr) (pn pc : Nat) (lp : List Int) (MA : Option Addr) (mn mc : Nat) (lm r : List Int) (hr : Weight.passV NS lw lp lm = some r) (w : World) (h : NL w A n c NS) (hw : Ints w .u64 WA wn wc lw) (hp : Ints w .u64 PA pn pc lp) (hmi : Ints w .u64 MA mn mc lm) :
    Calls Try.prog 17 #[.agg #[.slice A n c], .slice WA wn wc, .slice PA pn pc, .slice MA mn mc] w fun e w' => (∃ v, e = .returned (.tuple #[v, .bool true]) ∧ IsInts w' .u64 v r) ∧ Ext w w' := by
  have k := pass_any A n c NS WA wn wc lw PA pn pc lp MA mn mc lm w h hw hp hmi
  rw [hr] at k
  exact k
set_option maxHeartbeats 4000000 in
theorem DeltaPass_walk {w : World} (tA : Option Addr) (tn tc : Nat) (t : List Node) (ht : NL w tA tn tc t) (vA : Option Addr) (vn vc : Nat) (v : List Lat) (vo : Nat) (hvo : vo < 18446744073709551616) (hv : VL w vA vn vc v) (uA : Option Addr) (un uc : Nat) (u : List Lat) (uo : Nat) (huo : uo < 18446744073709551616) (hu : VL w uA un uc u) (LA : Option Addr) (ln lc : Nat) (l : List Int) (hl : Ints w .u64 LA ln lc l) :
    Calls Try.prog 6 #[.agg #[.slice tA tn tc], .agg #[.slice vA vn vc, .int .u64 vo], .agg #[.slice uA un uc, .int .u64 uo], .slice LA ln lc] w fun e' w' => e' = .returned (.bool true) ∧ Ext w w' := by
  have HAW := Lib.hid (fun W => awake_any W)
  have HW1 := Lib.hid (fun W (k : Ext w W) => dweights_any tA tn tc t vA vn vc vo v hvo LA ln lc l W (ht.ext k) (hv.ext k) (hl.ext k))
  have HW2 := Lib.hid (fun W (k : Ext w W) => dweights_any tA tn tc t uA un uc uo u huo LA ln lc l W (ht.ext k) (hu.ext k) (hl.ext k))
  have HO := Lib.hid (fun W (k : Ext w W) => dof_any tA tn tc t vA vn vc vo v hvo uA un uc uo u huo LA ln lc l W (ht.ext k) (hv.ext k) (hu.ext k) (hl.ext k))
  have HT := Lib.hid (fun W (k : Ext w W) => ht.ext k)
  clear ht hv hu hl
  by_cases h1 : 20 < tn
  · have g1 : (20 : Int) < tn := by omega
    generalize Delta.heavyV t v vo l = a at *
    generalize Delta.heavyV t u uo l = b at *
    go_enter Try.func6, Try.ntmps6
    go_wp2_with fail
    refine (HAW.out _).mono ?_
    rintro e0 w0 ⟨rfl, hx0⟩
    have k0 : Ext w w0 := Ext.trans ((by repeat (first | assumption | exact Ext.refl _ | refine Ext.alloc ?_ _ | refine Ext.drew ?_ | refine Ext.drewN ?_ _ | refine Ext.setCell ?_ (by first | (simp; done) | omega | (simp; omega)) _ | refine Ext.trans (by assumption) ?_))) hx0
    have t0 := hx0.cell (p := ⟨w.heap.size, 0, none⟩) (v := .slice tA tn tc) (by first | (simp; done) | (simp (maxDischargeDepth := 7) [go_sem]; done))
    have v0 := hx0.cell (p := ⟨w.heap.size + 1, 0, none⟩) (v := .slice vA vn vc) (by first | (simp; done) | (simp (maxDischargeDepth := 7) [go_sem]; done))
    have v1 := hx0.cell (p := ⟨w.heap.size + 1, 1, none⟩) (v := .int .u64 vo) (by first | (simp; done) | (simp (maxDischargeDepth := 7) [go_sem]; done))
    have u0 := hx0.cell (p := ⟨w.heap.size + 1 + 1, 0, none⟩) (v := .slice uA un uc) (by first | (simp; done) | (simp (maxDischargeDepth := 7) [go_sem]; done))
    have u1 := hx0.cell (p := ⟨w.heap.size + 1 + 1, 1, none⟩) (v := .int .u64 uo) (by first | (simp; done) | (simp (maxDischargeDepth := 7) [go_sem]; done))
    clear HAW hx0
    go_wp2_with fail
    refine (HW1.out _ k0).mono ?_
    rintro e w1 ⟨⟨x, rfl, ⟨A1, n1, c1, rfl, h1⟩⟩, hx1⟩
    have k1 := k0.trans hx1
    replace t0 := hx1.cell t0
    replace v0 := hx1.cell v0
    replace v1 := hx1.cell v1
    replace u0 := hx1.cell u0
    replace u1 := hx1.cell u1
    clear HW1 k0
    go_wp2_with fail
    refine (HW2.out _ k1).mono ?_
    rintro e w2 ⟨⟨x, rfl, ⟨A2, n2, c2, rfl, h2⟩⟩, hx2⟩
    have k2 := k1.trans hx2
    replace t0 := hx2.cell t0
    replace v0 := hx2.cell v0
    replace v1 := hx2.cell v1
    replace u0 := hx2.cell u0
    replace u1 := hx2.cell u1
    replace h1 := h1.ext hx2
    clear HW2 k1 hx1 hx2
    go_wp2
    go_ret
    exact ⟨rfl, k2⟩
  have g1 : ¬ (20 : Int) < tn := by omega
  clear h1
  cases hf : Delta.fitV t v vo l with
  | false =>
    rw [Delta.heavy_no hf] at HW1
    generalize Delta.heavyV t u uo l = b at *
    clear hf
    go_enter Try.func6, Try.ntmps6
    go_wp2_with fail
    refine (HAW.out _).mono ?_
    rintro e0 w0 ⟨rfl, hx0⟩
    have k0 : Ext w w0 := Ext.trans ((by repeat (first | assumption | exact Ext.refl _ | refine Ext.alloc ?_ _ | refine Ext.drew ?_ | refine Ext.drewN ?_ _ | refine Ext.setCell ?_ (by first | (simp; done) | omega | (simp; omega)) _ | refine Ext.trans (by assumption) ?_))) hx0
    have t0 := hx0.cell (p := ⟨w.heap.size, 0, none⟩) (v := .slice tA tn tc) (by first | (simp; done) | (simp (maxDischargeDepth := 7) [go_sem]; done))
    have v0 := hx0.cell (p := ⟨w.heap.size + 1, 0, none⟩) (v := .slice vA vn vc) (by first | (simp; done) | (simp (maxDischargeDepth := 7) [go_sem]; done))
    have v1 := hx0.cell (p := ⟨w.heap.size + 1, 1, none⟩) (v := .int .u64 vo) (by first | (simp; done) | (simp (maxDischargeDepth := 7) [go_sem]; done))
    have u0 := hx0.cell (p := ⟨w.heap.size + 1 + 1, 0, none⟩) (v := .slice uA un uc) (by first | (simp; done) | (simp (maxDischargeDepth := 7) [go_sem]; done))
    have u1 := hx0.cell (p := ⟨w.heap.size + 1 + 1, 1, none⟩) (v := .int .u64 uo) (by first | (simp; done) | (simp (maxDischargeDepth := 7) [go_sem]; done))
    clear HAW hx0
    go_wp2_with fail
    refine (HW1.out _ k0).mono ?_
    rintro e w1 ⟨⟨x, rfl, ⟨A1, n1, c1, rfl, h1⟩⟩, hx1⟩
    have k1 := k0.trans hx1
    replace t0 := hx1.cell t0
    replace v0 := hx1.cell v0
    replace v1 := hx1.cell v1
    replace u0 := hx1.cell u0
    replace u1 := hx1.cell u1
    clear HW1 k0
    go_wp2_with fail
    refine (HW2.out _ k1).mono ?_
    rintro e w2 ⟨⟨x, rfl, ⟨A2, n2, c2, rfl, h2⟩⟩, hx2⟩
    have k2 := k1.trans hx2
    replace t0 := hx2.cell t0
    replace v0 := hx2.cell v0
    replace v1 := hx2.cell v1
    replace u0 := hx2.cell u0
    replace u1 := hx2.cell u1
    replace h1 := h1.ext hx2
    clear HW2 k1 hx1 hx2
    go_wp2
    go_ret
    exact ⟨rfl, k2⟩
  | true =>
    cases hg : Delta.fitV t u uo l with
    | false =>
      rw [Delta.heavy_yes hf] at HW1
      rw [Delta.heavy_no hg] at HW2
      clear hf hg
      go_enter Try.func6, Try.ntmps6
      go_wp2_with fail
      refine (HAW.out _).mono ?_
      rintro e0 w0 ⟨rfl, hx0⟩
      have k0 : Ext w w0 := Ext.trans ((by repeat (first | assumption | exact Ext.refl _ | refine Ext.alloc ?_ _ | refine Ext.drew ?_ | refine Ext.drewN ?_ _ | refine Ext.setCell ?_ (by first | (simp; done) | omega | (simp; omega)) _ | refine Ext.trans (by assumption) ?_))) hx0
      have t0 := hx0.cell (p := ⟨w.heap.size, 0, none⟩) (v := .slice tA tn tc) (by first | (simp; done) | (simp (maxDischargeDepth := 7) [go_sem]; done))
      have v0 := hx0.cell (p := ⟨w.heap.size + 1, 0, none⟩) (v := .slice vA vn vc) (by first | (simp; done) | (simp (maxDischargeDepth := 7) [go_sem]; done))
      have v1 := hx0.cell (p := ⟨w.heap.size + 1, 1, none⟩) (v := .int .u64 vo) (by first | (simp; done) | (simp (maxDischargeDepth := 7) [go_sem]; done))
      have u0 := hx0.cell (p := ⟨w.heap.size + 1 + 1, 0, none⟩) (v := .slice uA un uc) (by first | (simp; done) | (simp (maxDischargeDepth := 7) [go_sem]; done))
      have u1 := hx0.cell (p := ⟨w.heap.size + 1 + 1, 1, none⟩) (v := .int .u64 uo) (by first | (simp; done) | (simp (maxDischargeDepth := 7) [go_sem]; done))
      clear HAW hx0
      go_wp2_with fail
      refine (HW1.out _ k0).mono ?_
      rintro e w1 ⟨⟨x, rfl, ⟨A1, n1, c1, rfl, h1⟩⟩, hx1⟩
      have k1 := k0.trans hx1
      replace t0 := hx1.cell t0
      replace v0 := hx1.cell v0
      replace v1 := hx1.cell v1
      replace u0 := hx1.cell u0
      replace u1 := hx1.cell u1
      clear HW1 k0
      go_wp2_with fail
      refine (HW2.out _ k1).mono ?_
      rintro e w2 ⟨⟨x, rfl, ⟨A2, n2, c2, rfl, h2⟩⟩, hx2⟩
      have k2 := k1.trans hx2
      replace t0 := hx2.cell t0
      replace v0 := hx2.cell v0
      replace v1 := hx2.cell v1
      replace u0 := hx2.cell u0
      replace u1 := hx2.cell u1
      replace h1 := h1.ext hx2
      clear HW2 k1 hx1 hx2
      go_wp2
      go_ret
      exact ⟨rfl, k2⟩
    | true =>
      have hp := Delta.pass_law hf hg
      have hq : Delta.fit2 t v vo u uo l = true := by unfold Delta.fit2; rw [hf, hg]; rfl
      have e1 : Delta.cameV t v vo u uo l = Delta.sumV t u v l := by unfold Delta.cameV; rw [hq, if_pos rfl]
      have e2 : Delta.wentV t v vo u uo l = Delta.sumV t v u l := by unfold Delta.wentV; rw [hq, if_pos rfl]
      rw [Delta.heavy_yes hf] at HW1
      rw [Delta.heavy_yes hg] at HW2
      rw [hq, e1, e2] at HO
      clear hf hg hq e1 e2
      dsimp only [Option.isSome_some, Option.getD_some] at HW1 HW2
      generalize Weight.listOf t.length (Weight.S t (Delta.ownF t v [] l)) = a at *
      generalize Weight.listOf t.length (Weight.S t (Delta.ownF t u [] l)) = b at *
      generalize Delta.sumV t u v l = p at *
      generalize Delta.sumV t v u l = q at *
      have HP := Lib.hid (fun A1 n1 c1 A2 n2 c2 A3 n3 c3 W (k : Ext w W) (g1 : Ints W .u64 A1 n1 c1 a) (g2 : Ints W .u64 A2 n2 c2 p) (g3 : Ints W .u64 A3 n3 c3 q) => dpass_is tA tn tc t A1 n1 c1 a A2 n2 c2 p A3 n3 c3 q b hp W (HT.out W k) g1 g2 g3)
      clear hp HT
      go_enter Try.func6, Try.ntmps6
      go_wp2_with fail
      refine (HAW.out _).mono ?_
      rintro e0 w0 ⟨rfl, hx0⟩
      have k0 : Ext w w0 := Ext.trans ((by repeat (first | assumption | exact Ext.refl _ | refine Ext.alloc ?_ _ | refine Ext.drew ?_ | refine Ext.drewN ?_ _ | refine Ext.setCell ?_ (by first | (simp; done) | omega | (simp; omega)) _ | refine Ext.trans (by assumption) ?_))) hx0
      have t0 := hx0.cell (p := ⟨w.heap.size, 0, none⟩) (v := .slice tA tn tc) (by first | (simp; done) | (simp (maxDischargeDepth := 7) [go_sem]; done))
      have v0 := hx0.cell (p := ⟨w.heap.size + 1, 0, none⟩) (v := .slice vA vn vc) (by first | (simp; done) | (simp (maxDischargeDepth := 7) [go_sem]; done))
      have v1 := hx0.cell (p := ⟨w.heap.size + 1, 1, none⟩) (v := .int .u64 vo) (by first | (simp; done) | (simp (maxDischargeDepth := 7) [go_sem]; done))
      have u0 := hx0.cell (p := ⟨w.heap.size + 1 + 1, 0, none⟩) (v := .slice uA un uc) (by first | (simp; done) | (simp (maxDischargeDepth := 7) [go_sem]; done))
      have u1 := hx0.cell (p := ⟨w.heap.size + 1 + 1, 1, none⟩) (v := .int .u64 uo) (by first | (simp; done) | (simp (maxDischargeDepth := 7) [go_sem]; done))
      clear HAW hx0
      go_wp2_with fail
      refine (HW1.out _ k0).mono ?_
      rintro e w1 ⟨⟨x, rfl, ⟨A1, n1, c1, rfl, h1⟩⟩, hx1⟩
      have k1 := k0.trans hx1
      replace t0 := hx1.cell t0
      replace v0 := hx1.cell v0
      replace v1 := hx1.cell v1
      replace u0 := hx1.cell u0
      replace u1 := hx1.cell u1
      clear HW1 k0
      go_wp2_with fail
      refine (HW2.out _ k1).mono ?_
      rintro e w2 ⟨⟨x, rfl, ⟨A2, n2, c2, rfl, h2⟩⟩, hx2⟩
      have k2 := k1.trans hx2
      replace t0 := hx2.cell t0
      replace v0 := hx2.cell v0
      replace v1 := hx2.cell v1
      replace u0 := hx2.cell u0
      replace u1 := hx2.cell u1
      replace h1 := h1.ext hx2
      clear HW2 k1 hx1 hx2
      go_wp2_with fail
      refine (HO.out _ k2).mono ?_
      rintro e w3 ⟨⟨x, y, rfl, ⟨A3, n3, c3, rfl, h3⟩, ⟨A4, n4, c4, rfl, h4⟩⟩, hx3⟩
      have k3 := k2.trans hx3
      replace t0 := hx3.cell t0
      replace v0 := hx3.cell v0
      replace v1 := hx3.cell v1
      replace u0 := hx3.cell u0
      replace u1 := hx3.cell u1
      replace h1 := h1.ext hx3
      replace h2 := h2.ext hx3
      clear HO k2 hx3
      have H1 := Lib.hid h1
      have H2 := Lib.hid h2
      have H3 := Lib.hid h3
      have H4 := Lib.hid h4
      clear h1 h2 h3 h4
      go_wp2_with fail
      refine (HP.out _ _ _ _ _ _ _ _ _ _ k3 H1.out H3.out H4.out).mono ?_
      rintro e w4 ⟨⟨x, rfl, ⟨A5, n5, c5, rfl, h5⟩⟩, hx4⟩
      have k4 := k3.trans hx4
      have H5 := Lib.hid h5
      have H6 := Lib.hid (H2.out.ext hx4)
      clear h5 hx4 HP k3 H1 H2 H3 H4
      go_wp2_with fail
      refine (same_true b _ _ _ _ _ _ _ H5.out H6.out).mono ?_
      rintro e w5 ⟨rfl, hx5⟩
      go_wp2
      go_ret
      exact ⟨rfl, k4.trans hx5⟩
set_option maxRecDepth 100000 in
theorem DeltaPass_lifted (os : Os) (started : os.Started) (H : Type) (enc : TypeId × Value → H) :
    ReturnsInHanded {} Try.checked os 6 .any (Rows.deltaPassSpec.pre6 enc Try.prog Try.f6 Rows.deltaPassRow.domain false) (Rows.deltaPassSpec.post enc Try.prog Try.f6 false true false false) := by
  refine returnsInHanded_of_change_sized (C := Try.checked) own started (by kernel_rfl) Try.func6
    (ChangeSpec.witness6 (enc := enc) (C := Try.checked) false ⟨#[], #[.agg #[.slice none 0 0], .agg #[.slice none 0 0, .int .u64 0], .agg #[.slice none 0 0, .int .u64 0], .slice none 0 0], []⟩ 8 (by kernel_rfl) (by kernel_rfl) (by kernel_rfl) (by kernel_rfl)) ?_
  intro W base args ds gs before hval0 hW _hcnd hsz0 _
  have hval : ∀ (j : Nat) t v, Try.f6.params[j]? = some t → args[j]? = some v → Value.okWide Try.prog W .any base t v := hval0
  have hsz : (DataW.weightsEach Try.prog (Try.f6.params.toList ++ Rows.deltaPassSpec.plain.varTypes Try.prog) (ds ++ gs)).all (· ≤ reachBytes) = true := hsz0
  have hW' := hW
  obtain ⟨p, q, hA0, hV, rfl, hfz, hnd⟩ := hW
  have hA : DataW.TrodAll enc Try.prog W 0 (fun _ => true) true Try.f6.params.toList args.toList ds p := hA0
  rw [Try.params6] at hA hval hsz
  obtain ⟨v0, vs0, d0, ds0, p0, q0, hargs, rfl, rfl, h0, r0⟩ := trodAll_cons hA
  obtain ⟨v1, vs1, d1, ds1, p1, q1, rfl, rfl, rfl, h1, r1⟩ := trodAll_cons r0
  obtain ⟨v2, vs2, d2, ds2, p2, q2, rfl, rfl, rfl, h2, r2⟩ := trodAll_cons r1
  obtain ⟨v3, vs3, d3, ds3, p3, q3, rfl, rfl, rfl, h3, r3⟩ := trodAll_cons r2
  obtain ⟨rfl, rfl, rfl⟩ := trodAll_nil r3
  obtain rfl : args = #[v0, v1, v2, v3] := by cases args; simp_all
  obtain ⟨rfl, rfl⟩ := trodVars_none hV
  have h0k := h0
  have h1k := h1
  have h2k := h2
  have h3k := h3
  have hlt0 : ∀ x ∈ p0, x.block < W.heap.size := fun x hx => by have := hW'.lt x (by simp [hx]); simpa using this
  have hlt1 : ∀ x ∈ p1, x.block < W.heap.size := fun x hx => by have := hW'.lt x (by simp [hx]); simpa using this
  have hlt2 : ∀ x ∈ p2, x.block < W.heap.size := fun x hx => by have := hW'.lt x (by simp [hx]); simpa using this
  have hlt3 : ∀ x ∈ p3, x.block < W.heap.size := fun x hx => by have := hW'.lt x (by simp [hx]); simpa using this
  obtain ⟨tA, tn, tc, t, rfl, ht⟩ := open_tree (hval 0 24 v0 rfl rfl) h0 hsz (j := 0) rfl rfl
  obtain ⟨wasA, wasn, wasc, was, waso, rfl, hwas, howas⟩ := open_votes (hval 1 28 v1 rfl rfl) h1 hsz (j := 1) rfl rfl
  obtain ⟨isA, isn, isc, is, iso, rfl, his, hois⟩ := open_votes (hval 2 28 v2 rfl rfl) h2 hsz (j := 2) rfl rfl
  obtain ⟨bal, balA, baln, balc, rfl, hbal⟩ := open_Ints Try.underlying29 Try.underlying26 (by kernel_rfl) (by kernel_rfl) (hval 3 29 v3 rfl rfl) h3 hsz (j := 3) rfl rfl
  clear hA0 hval0
  simp only [List.append_nil] at hW'
  refine (DeltaPass_walk tA tn tc t ht wasA wasn wasc was waso howas hwas isA isn isc is iso hois his balA baln balc bal hbal (w := W)).mono fun e W' ⟨he, hg⟩ => ?_
  subst he
  exact ⟨_, rfl, post_law (pa := p0 ++ (p1 ++ (p2 ++ (p3 ++ [])))) (pv := []) hW' (fun _ _ _ => (trodAll_cons_mk (shut_bool Try.underlying4 _) trodAll_mk0))
    (trodAll_cons_mk (Below.trod laidOut (by kernel_rfl) (of_decide_eq_true (by kernel_rfl)) h0k hg.out hlt0) (trodAll_cons_mk (Below.trod laidOut (by kernel_rfl) (of_decide_eq_true (by kernel_rfl)) h1k hg.out hlt1) (trodAll_cons_mk (Below.trod laidOut (by kernel_rfl) (of_decide_eq_true (by kernel_rfl)) h2k hg.out hlt2) (trodAll_cons_mk (Below.trod laidOut (by kernel_rfl) (of_decide_eq_true (by kernel_rfl)) h3k hg.out hlt3) trodAll_mk0)))) rfl (by simp) hg⟩
theorem DeltaPass_holds : Rows.DeltaPassSaid :=
  OpenClaim.holds_of_wide 6 Try.f6 rfl rfl rfl rfl rfl rfl rfl ⟨rfl, rfl, rfl, rfl, rfl⟩ rfl rfl rfl rfl rfl (by kernel_rfl) Try.func6 (by kernel_rfl)
    (of_decide_eq_true (by kernel_rfl)) (by unfold Func.isWrapper; first | (rw [if_pos (by decide +kernel)]; kernel_rfl) | (rw [if_neg (by decide +kernel)]; exact ⟨rfl, rfl⟩))
    (fun os started H enc _ => DeltaPass_lifted os started H enc)
#print axioms DeltaPass_holds
end Go.Proofs.Ytjhhfininnlkfaa
