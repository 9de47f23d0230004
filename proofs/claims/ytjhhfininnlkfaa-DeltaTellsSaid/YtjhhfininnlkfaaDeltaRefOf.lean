/- The document's answer of layer 14: Own, Of, Weights as wholes. -/
import Derived.Test.YtjhhfininnlkfaaDeltaRef
import Derived.Deep.DeepCutAuto
import Derived.Deep.RegionHeld3
namespace Go.Proofs.Ytjhhfininnlkfaa
open Go.RowKit Go.WideShapes Go.ChangeShapes Go.Joins Go.Deep
set_option linter.unusedVariables false
set_option linter.unusedSimpArgs false








set_option maxHeartbeats 1000000 in
theorem r14own_any (A : Option Addr) (n c : Nat) (NS : List Node) (vA : Option Addr) (vn vc vo : Nat) (v : List Lat) (ho : vo < 18446744073709551616) (LA : Option Addr) (ln lc : Nat) (l : List Int) (w : World) (h : NL w A n c NS) (hv : VL w vA vn vc v) (hl : Ints w .u64 LA ln lc l) :
    Calls Try.prog 9 #[.agg #[.slice A n c], .agg #[.slice vA vn vc, .int .u64 vo], .slice LA ln lc] w fun e w' => (∃ x, e = .returned (.tuple #[x, .bool (Delta.fitV NS v vo l)]) ∧ IsInts w' .u64 x (Delta.ownV NS v vo l)) ∧ Ext w w' := by
  cases hf : Delta.fitV NS v vo l with
  | false =>
    have HF := Lib.hid (fun W (k : Ext w W) => rdfit_any A n c NS vA vn vc vo v ho LA ln lc l W (h.ext k) (hv.ext k) (hl.ext k))
    have e : Delta.ownV NS v vo l = [] := by unfold Delta.ownV; rw [hf, if_neg (by simp)]
    rw [e]
    rw [hf] at HF
    clear h hv hl hf e
    go_enter Try.func9, Try.ntmps9
    go_wp2_with fail
    refine (HF.out _ ((by repeat (first | assumption | exact Ext.refl _ | refine Ext.alloc ?_ _ | refine Ext.drew ?_ | refine Ext.drewN ?_ _ | refine Ext.setCell ?_ (by first | (simp; done) | omega | (simp; omega)) _ | refine Ext.trans (by assumption) ?_)))).mono ?_
    rintro e w1 ⟨rfl, hx1⟩
    have k1 : Ext w w1 := Ext.trans ((by repeat (first | assumption | exact Ext.refl _ | refine Ext.alloc ?_ _ | refine Ext.drew ?_ | refine Ext.drewN ?_ _ | refine Ext.setCell ?_ (by first | (simp; done) | omega | (simp; omega)) _ | refine Ext.trans (by assumption) ?_))) hx1
    go_wp2
    go_ret2
    exact ⟨⟨_, rfl, ints_nil _⟩, k1⟩
  | true =>
    have e : Delta.ownV NS v vo l = Delta.sumV NS v [] l := by unfold Delta.ownV; rw [hf, if_pos rfl]
    rw [e]
    exact rdown_any' A n c NS vA vn vc vo v ho LA ln lc l w h hv hl hf

set_option maxHeartbeats 2000000 in
theorem r14of_any (A : Option Addr) (n c : Nat) (NS : List Node) (vA : Option Addr) (vn vc vo : Nat) (v : List Lat) (ho : vo < 18446744073709551616) (uA : Option Addr) (un uc uo : Nat) (u : List Lat) (huo : uo < 18446744073709551616) (LA : Option Addr) (ln lc : Nat) (l : List Int) (w : World) (h : NL w A n c NS) (hv : VL w vA vn vc v) (hu : VL w uA un uc u) (hl : Ints w .u64 LA ln lc l) :
    Calls Try.prog 13 #[.agg #[.slice A n c], .agg #[.slice vA vn vc, .int .u64 vo], .agg #[.slice uA un uc, .int .u64 uo], .slice LA ln lc] w fun e w' => (∃ x y, e = .returned (.tuple #[x, y, .bool (Delta.fit2 NS v vo u uo l)]) ∧ IsInts w' .u64 x (Delta.cameV NS v vo u uo l) ∧ IsInts w' .u64 y (Delta.wentV NS v vo u uo l)) ∧ Ext w w' := by
  have HF1 := Lib.hid (fun W (k : Ext w W) => rdfit_any A n c NS vA vn vc vo v ho LA ln lc l W (h.ext k) (hv.ext k) (hl.ext k))
  have HF2 := Lib.hid (fun W (k : Ext w W) => rdfit_any A n c NS uA un uc uo u huo LA ln lc l W (h.ext k) (hu.ext k) (hl.ext k))
  cases hf : Delta.fitV NS v vo l with
  | false =>
    have hq : Delta.fit2 NS v vo u uo l = false := by unfold Delta.fit2; rw [hf]; rfl
    have e1 : Delta.cameV NS v vo u uo l = [] := by unfold Delta.cameV; rw [hq, if_neg (by simp)]
    have e2 : Delta.wentV NS v vo u uo l = [] := by unfold Delta.wentV; rw [hq, if_neg (by simp)]
    rw [e1, e2, hq]
    rw [hf] at HF1
    generalize Delta.fitV NS u uo l = q at *
    clear h hv hu hl hf e1 e2 hq
    go_enter Try.func13, Try.ntmps13
    go_wp2_with fail
    refine (HF1.out _ ((by repeat (first | assumption | exact Ext.refl _ | refine Ext.alloc ?_ _ | refine Ext.drew ?_ | refine Ext.drewN ?_ _ | refine Ext.setCell ?_ (by first | (simp; done) | omega | (simp; omega)) _ | refine Ext.trans (by assumption) ?_)))).mono ?_
    rintro e w1 ⟨rfl, hx1⟩
    have k1 : Ext w w1 := Ext.trans ((by repeat (first | assumption | exact Ext.refl _ | refine Ext.alloc ?_ _ | refine Ext.drew ?_ | refine Ext.drewN ?_ _ | refine Ext.setCell ?_ (by first | (simp; done) | omega | (simp; omega)) _ | refine Ext.trans (by assumption) ?_))) hx1
    have t0 := hx1.cell (p := ⟨w.heap.size, 0, none⟩) (v := .slice A n c) (by first | (simp; done) | (simp (maxDischargeDepth := 7) [go_sem]; done))
    have v0 := hx1.cell (p := ⟨w.heap.size + 1, 0, none⟩) (v := .slice vA vn vc) (by first | (simp; done) | (simp (maxDischargeDepth := 7) [go_sem]; done))
    have v1 := hx1.cell (p := ⟨w.heap.size + 1, 1, none⟩) (v := .int .u64 vo) (by first | (simp; done) | (simp (maxDischargeDepth := 7) [go_sem]; done))
    have u0 := hx1.cell (p := ⟨w.heap.size + 1 + 1, 0, none⟩) (v := .slice uA un uc) (by first | (simp; done) | (simp (maxDischargeDepth := 7) [go_sem]; done))
    have u1 := hx1.cell (p := ⟨w.heap.size + 1 + 1, 1, none⟩) (v := .int .u64 uo) (by first | (simp; done) | (simp (maxDischargeDepth := 7) [go_sem]; done))
    go_wp2_with fail
    refine (HF2.out _ k1).mono ?_
    rintro e w2 ⟨rfl, hx2⟩
    replace t0 := hx2.cell t0
    replace v0 := hx2.cell v0
    replace v1 := hx2.cell v1
    replace u0 := hx2.cell u0
    replace u1 := hx2.cell u1
    have kk := k1.trans hx2
    clear hx1 hx2 k1 HF1 HF2
    go_wp2
    refine bodyPost_ret (v := .tuple #[.slice none 0 0, .slice none 0 0, .bool false]) (by simp (maxDischargeDepth := 7) [results, Try.results13, go_sem]) rfl ⟨⟨_, _, rfl, ints_nil _, ints_nil _⟩, kk⟩
  | true =>
    rw [hf] at HF1
    cases hg : Delta.fitV NS u uo l with
    | false =>
      have hq : Delta.fit2 NS v vo u uo l = false := by unfold Delta.fit2; rw [hf, hg]; rfl
      have e1 : Delta.cameV NS v vo u uo l = [] := by unfold Delta.cameV; rw [hq, if_neg (by simp)]
      have e2 : Delta.wentV NS v vo u uo l = [] := by unfold Delta.wentV; rw [hq, if_neg (by simp)]
      rw [e1, e2, hq]
      rw [hg] at HF2
      clear h hv hu hl hf hg e1 e2 hq
      go_enter Try.func13, Try.ntmps13
      go_wp2_with fail
      refine (HF1.out _ ((by repeat (first | assumption | exact Ext.refl _ | refine Ext.alloc ?_ _ | refine Ext.drew ?_ | refine Ext.drewN ?_ _ | refine Ext.setCell ?_ (by first | (simp; done) | omega | (simp; omega)) _ | refine Ext.trans (by assumption) ?_)))).mono ?_
      rintro e w1 ⟨rfl, hx1⟩
      have k1 : Ext w w1 := Ext.trans ((by repeat (first | assumption | exact Ext.refl _ | refine Ext.alloc ?_ _ | refine Ext.drew ?_ | refine Ext.drewN ?_ _ | refine Ext.setCell ?_ (by first | (simp; done) | omega | (simp; omega)) _ | refine Ext.trans (by assumption) ?_))) hx1
      have t0 := hx1.cell (p := ⟨w.heap.size, 0, none⟩) (v := .slice A n c) (by first | (simp; done) | (simp (maxDischargeDepth := 7) [go_sem]; done))
      have v0 := hx1.cell (p := ⟨w.heap.size + 1, 0, none⟩) (v := .slice vA vn vc) (by first | (simp; done) | (simp (maxDischargeDepth := 7) [go_sem]; done))
      have v1 := hx1.cell (p := ⟨w.heap.size + 1, 1, none⟩) (v := .int .u64 vo) (by first | (simp; done) | (simp (maxDischargeDepth := 7) [go_sem]; done))
      have u0 := hx1.cell (p := ⟨w.heap.size + 1 + 1, 0, none⟩) (v := .slice uA un uc) (by first | (simp; done) | (simp (maxDischargeDepth := 7) [go_sem]; done))
      have u1 := hx1.cell (p := ⟨w.heap.size + 1 + 1, 1, none⟩) (v := .int .u64 uo) (by first | (simp; done) | (simp (maxDischargeDepth := 7) [go_sem]; done))
      go_wp2_with fail
      refine (HF2.out _ k1).mono ?_
      rintro e w2 ⟨rfl, hx2⟩
      replace t0 := hx2.cell t0
      replace v0 := hx2.cell v0
      replace v1 := hx2.cell v1
      replace u0 := hx2.cell u0
      replace u1 := hx2.cell u1
      have kk := k1.trans hx2
      clear hx1 hx2 k1 HF1 HF2
      go_wp2
      refine bodyPost_ret (v := .tuple #[.slice none 0 0, .slice none 0 0, .bool false]) (by simp (maxDischargeDepth := 7) [results, Try.results13, go_sem]) rfl ⟨⟨_, _, rfl, ints_nil _, ints_nil _⟩, kk⟩
    | true =>
      rw [hg] at HF2
      have hq : Delta.fit2 NS v vo u uo l = true := by unfold Delta.fit2; rw [hf, hg]; rfl
      obtain ⟨f1, f2, f3, f4⟩ := Delta.fitV_iff.1 hf
      obtain ⟨g1, g2, g3, g4⟩ := Delta.fitV_iff.1 hg
      have hvl := hv.len
      have hul := hu.len
      have hll := hl.len
      have e1 : Delta.cameV NS v vo u uo l = Delta.sumV NS u v l := by unfold Delta.cameV; rw [hq, if_pos rfl]
      have e2 : Delta.wentV NS v vo u uo l = Delta.sumV NS v u l := by unfold Delta.wentV; rw [hq, if_pos rfl]
      rw [e1, e2, hq]
      obtain rfl : ln = vn := by omega
      obtain rfl : ln = un := by omega
      have HS1 := Lib.hid (fun W (k : Ext w W) => rdsome_any A n c NS uA ln uc uo u vA vc vo v LA lc l W (h.ext k) (hu.ext k) (hv.ext k) (hl.ext k) f1 f3)
      have HS2 := Lib.hid (fun W (k : Ext w W) => rdsome_any A n c NS vA ln vc vo v uA uc uo u LA lc l W (h.ext k) (hv.ext k) (hu.ext k) (hl.ext k) f1 f3)
      clear h hv hu hl hf hg e1 e2 hq f1 f2 f3 f4 g1 g2 g3 g4 hvl hul hll
      go_enter Try.func13, Try.ntmps13
      go_wp2_with fail
      refine (HF1.out _ ((by repeat (first | assumption | exact Ext.refl _ | refine Ext.alloc ?_ _ | refine Ext.drew ?_ | refine Ext.drewN ?_ _ | refine Ext.setCell ?_ (by first | (simp; done) | omega | (simp; omega)) _ | refine Ext.trans (by assumption) ?_)))).mono ?_
      rintro e w1 ⟨rfl, hx1⟩
      have k1 : Ext w w1 := Ext.trans ((by repeat (first | assumption | exact Ext.refl _ | refine Ext.alloc ?_ _ | refine Ext.drew ?_ | refine Ext.drewN ?_ _ | refine Ext.setCell ?_ (by first | (simp; done) | omega | (simp; omega)) _ | refine Ext.trans (by assumption) ?_))) hx1
      have t0 := hx1.cell (p := ⟨w.heap.size, 0, none⟩) (v := .slice A n c) (by first | (simp; done) | (simp (maxDischargeDepth := 7) [go_sem]; done))
      have v0 := hx1.cell (p := ⟨w.heap.size + 1, 0, none⟩) (v := .slice vA ln vc) (by first | (simp; done) | (simp (maxDischargeDepth := 7) [go_sem]; done))
      have v1 := hx1.cell (p := ⟨w.heap.size + 1, 1, none⟩) (v := .int .u64 vo) (by first | (simp; done) | (simp (maxDischargeDepth := 7) [go_sem]; done))
      have u0 := hx1.cell (p := ⟨w.heap.size + 1 + 1, 0, none⟩) (v := .slice uA ln uc) (by first | (simp; done) | (simp (maxDischargeDepth := 7) [go_sem]; done))
      have u1 := hx1.cell (p := ⟨w.heap.size + 1 + 1, 1, none⟩) (v := .int .u64 uo) (by first | (simp; done) | (simp (maxDischargeDepth := 7) [go_sem]; done))
      go_wp2_with fail
      refine (HF2.out _ k1).mono ?_
      rintro e w2 ⟨rfl, hx2⟩
      replace t0 := hx2.cell t0
      replace v0 := hx2.cell v0
      replace v1 := hx2.cell v1
      replace u0 := hx2.cell u0
      replace u1 := hx2.cell u1
      have kk := k1.trans hx2
      clear hx1 hx2 k1 HF1 HF2
      go_upto_region 5 with fail
      have T0 := Lib.hid (fun W (hx : Ext w2 W) => keepT t0 v0 v1 u0 u1 hx)
      go_region_held3 (fun w' => w'.cell? ⟨w.heap.size, 0, none⟩ = some (.slice A n c) ∧ w'.cell? ⟨w.heap.size + 1, 0, none⟩ = some (.slice vA ln vc) ∧ w'.cell? ⟨w.heap.size + 1, 1, none⟩ = some (.int .u64 vo) ∧ w'.cell? ⟨w.heap.size + 1 + 1, 0, none⟩ = some (.slice uA ln uc) ∧ w'.cell? ⟨w.heap.size + 1 + 1, 1, none⟩ = some (.int .u64 uo)) (exact T0.out _ ((by repeat (first | assumption | exact Ext.refl _ | refine Ext.alloc ?_ _ | refine Ext.drew ?_ | refine Ext.drewN ?_ _ | refine Ext.setCell ?_ (by first | (simp; done) | omega | (simp; omega)) _ | refine Ext.trans (by assumption) ?_)))) (first | (go_at_call 25; (with_reducible refine (HS1.out _ (Ext.trans kk ((by repeat (first | assumption | exact Ext.refl _ | refine Ext.alloc ?_ _ | refine Ext.drew ?_ | refine Ext.drewN ?_ _ | refine Ext.setCell ?_ (by first | (simp; done) | omega | (simp; omega)) _ | refine Ext.trans (by assumption) ?_))))).mono ?_); rintro e wa ⟨⟨xa, rfl, ha⟩, hxa⟩; have ka : Ext w2 wa := Ext.trans ((by repeat (first | assumption | exact Ext.refl _ | refine Ext.alloc ?_ _ | refine Ext.drew ?_ | refine Ext.drewN ?_ _ | refine Ext.setCell ?_ (by first | (simp; done) | omega | (simp; omega)) _ | refine Ext.trans (by assumption) ?_))) hxa) | (go_at_call 25; (with_reducible refine (HS2.out _ (Ext.trans kk ((by repeat (first | assumption | exact Ext.refl _ | refine Ext.alloc ?_ _ | refine Ext.drew ?_ | refine Ext.drewN ?_ _ | refine Ext.setCell ?_ (by first | (simp; done) | omega | (simp; omega)) _ | refine Ext.trans (by assumption) ?_))))).mono ?_); rintro e wb ⟨⟨xb, rfl, hb⟩, hxb⟩; have kb : Ext w2 wb := Ext.trans ((by repeat (first | assumption | exact Ext.refl _ | refine Ext.alloc ?_ _ | refine Ext.drew ?_ | refine Ext.drewN ?_ _ | refine Ext.setCell ?_ (by first | (simp; done) | omega | (simp; omega)) _ | refine Ext.trans (by assumption) ?_))) hxb))
      all_goals
        go_wp2
        refine bodyPost_ret (v := .tuple #[xa, xb, .bool true]) (by simp (maxDischargeDepth := 7) [results, Try.results13, go_sem]) rfl ⟨⟨_, _, rfl, IsInts.ext ha ((by repeat (first | assumption | exact Ext.refl _ | refine Ext.alloc ?_ _ | refine Ext.drew ?_ | refine Ext.drewN ?_ _ | refine Ext.setCell ?_ (by first | (simp; done) | omega | (simp; omega)) _ | refine Ext.trans (by assumption) ?_))), IsInts.ext hb ((by repeat (first | assumption | exact Ext.refl _ | refine Ext.alloc ?_ _ | refine Ext.drew ?_ | refine Ext.drewN ?_ _ | refine Ext.setCell ?_ (by first | (simp; done) | omega | (simp; omega)) _ | refine Ext.trans (by assumption) ?_)))⟩, Ext.trans kk (by assumption)⟩
theorem r14sub_is (A : Option Addr) (n c : Nat) (NS : List Node) (B : Option Addr) (m d : Nat) (l : List Int) (b : Bool) (r : List Int) (hb : (Weight.subV NS l).isSome = b) (hr : (Weight.subV NS l).getD [] = r) (w : World) (h : NL w A n c NS) (hl : Ints w .u64 B m d l) :
    Calls Try.prog 24 #[.agg #[.slice A n c], .slice B m d] w fun e w' => (∃ v, e = .returned (.tuple #[v, .bool b]) ∧ IsInts w' .u64 v r) ∧ Ext w w' := by
  subst hb hr
  exact (rsubs_any A n c NS B m d l w h hl).mono fun e w' ⟨⟨v, he, hv⟩, hx⟩ => ⟨⟨v, he, hv.ints⟩, hx⟩
set_option maxHeartbeats 1000000 in
theorem r14weights_any (A : Option Addr) (n c : Nat) (NS : List Node) (vA : Option Addr) (vn vc vo : Nat) (v : List Lat) (ho : vo < 18446744073709551616) (LA : Option Addr) (ln lc : Nat) (l : List Int) (w : World) (h : NL w A n c NS) (hv : VL w vA vn vc v) (hl : Ints w .u64 LA ln lc l) :
    Calls Try.prog 11 #[.agg #[.slice A n c], .agg #[.slice vA vn vc, .int .u64 vo], .slice LA ln lc] w fun e w' => (∃ x, e = .returned (.tuple #[x, .bool (Delta.heavyV NS v vo l).isSome]) ∧ IsInts w' .u64 x ((Delta.heavyV NS v vo l).getD [])) ∧ Ext w w' := by
  have HO := Lib.hid (fun W (k : Ext w W) => r14own_any A n c NS vA vn vc vo v ho LA ln lc l W (h.ext k) (hv.ext k) (hl.ext k))
  have HT := Lib.hid (fun W (k : Ext w W) => h.ext k)
  clear h hv hl
  cases hf : Delta.fitV NS v vo l with
  | false =>
    have e : Delta.heavyV NS v vo l = none := by unfold Delta.heavyV; rw [hf, if_neg (by simp)]
    rw [e]
    rw [hf] at HO
    clear hf e
    go_enter Try.func11, Try.ntmps11
    go_wp2_with fail
    refine (HO.out _ ((by repeat (first | assumption | exact Ext.refl _ | refine Ext.alloc ?_ _ | refine Ext.drew ?_ | refine Ext.drewN ?_ _ | refine Ext.setCell ?_ (by first | (simp; done) | omega | (simp; omega)) _ | refine Ext.trans (by assumption) ?_)))).mono ?_
    rintro e w1 ⟨⟨x, rfl, hi⟩, hx1⟩
    have k1 : Ext w w1 := Ext.trans ((by repeat (first | assumption | exact Ext.refl _ | refine Ext.alloc ?_ _ | refine Ext.drew ?_ | refine Ext.drewN ?_ _ | refine Ext.setCell ?_ (by first | (simp; done) | omega | (simp; omega)) _ | refine Ext.trans (by assumption) ?_))) hx1
    go_wp2
    go_ret2
    exact ⟨⟨_, rfl, ints_nil _⟩, k1⟩
  | true =>
    have e : Delta.heavyV NS v vo l = Weight.subV NS (Delta.sumV NS v [] l) := by unfold Delta.heavyV; rw [hf, if_pos rfl]
    have e2 : Delta.ownV NS v vo l = Delta.sumV NS v [] l := by unfold Delta.ownV; rw [hf, if_pos rfl]
    rw [e]
    rw [hf, e2] at HO
    clear hf e e2
    obtain ⟨b, hb⟩ : ∃ b, (Weight.subV NS (Delta.sumV NS v [] l)).isSome = b := ⟨_, rfl⟩
    obtain ⟨r, hr⟩ : ∃ r, (Weight.subV NS (Delta.sumV NS v [] l)).getD [] = r := ⟨_, rfl⟩
    have HW := Lib.hid (fun B m d W (k : Ext w W) (g : Ints W .u64 B m d (Delta.sumV NS v [] l)) => r14sub_is A n c NS B m d _ b r hb hr W (HT.out W k) g)
    rw [hb, hr]
    clear hb hr HT
    go_enter Try.func11, Try.ntmps11
    go_wp2_with fail
    refine (HO.out _ ((by repeat (first | assumption | exact Ext.refl _ | refine Ext.alloc ?_ _ | refine Ext.drew ?_ | refine Ext.drewN ?_ _ | refine Ext.setCell ?_ (by first | (simp; done) | omega | (simp; omega)) _ | refine Ext.trans (by assumption) ?_)))).mono ?_
    rintro e w1 ⟨⟨x, rfl, ⟨B, m, d, rfl, hi⟩⟩, hx1⟩
    have k1 : Ext w w1 := Ext.trans ((by repeat (first | assumption | exact Ext.refl _ | refine Ext.alloc ?_ _ | refine Ext.drew ?_ | refine Ext.drewN ?_ _ | refine Ext.setCell ?_ (by first | (simp; done) | omega | (simp; omega)) _ | refine Ext.trans (by assumption) ?_))) hx1
    have t0 := hx1.cell (p := ⟨w.heap.size, 0, none⟩) (v := .slice A n c) (by first | (simp; done) | (simp (maxDischargeDepth := 7) [go_sem]; done))
    go_wp2_with fail
    refine (HW.out _ _ _ _ k1 hi).mono ?_
    rintro e w2 ⟨⟨y, rfl, hj⟩, hx2⟩
    go_wp2
    go_ret2
    exact ⟨⟨_, rfl, hj⟩, k1.trans hx2⟩
end Go.Proofs.Ytjhhfininnlkfaa
