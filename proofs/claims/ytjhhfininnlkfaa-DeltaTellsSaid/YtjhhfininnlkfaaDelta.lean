/- Layer 14: delta.fit, Own, Of, Weights. -/
import Derived.Test.YtjhhfininnlkfaaDeltaSum
import Derived.Test.YtjhhfininnlkfaaWeightPass
import Derived.Deep.DeepCutAuto
import Derived.Deep.RegionHeld3
namespace Go.Proofs.Ytjhhfininnlkfaa
open Go.RowKit Go.WideShapes Go.ChangeShapes Go.Joins Go.Deep
set_option linter.unusedVariables false
set_option linter.unusedSimpArgs false








namespace Delta
def fitV (T : List Node) (v : List Lat) (vo : Nat) (l : List Int) : Bool := Tree.mayV T && (mayV v vo && (Stake.mayV l && decide (v.length = l.length)))
def ownV (T : List Node) (v : List Lat) (vo : Nat) (l : List Int) : List Int := if fitV T v vo l = true then sumV T v [] l else []
def fit2 (T : List Node) (v : List Lat) (vo : Nat) (u : List Lat) (uo : Nat) (l : List Int) : Bool := fitV T v vo l && fitV T u uo l
/-- What came from v to u. -/
def cameV (T : List Node) (v : List Lat) (vo : Nat) (u : List Lat) (uo : Nat) (l : List Int) : List Int := if fit2 T v vo u uo l = true then sumV T u v l else []
def wentV (T : List Node) (v : List Lat) (vo : Nat) (u : List Lat) (uo : Nat) (l : List Int) : List Int := if fit2 T v vo u uo l = true then sumV T v u l else []
def heavyV (T : List Node) (v : List Lat) (vo : Nat) (l : List Int) : Option (List Int) := if fitV T v vo l = true then Weight.subV T (sumV T v [] l) else none
theorem fitV_iff {T : List Node} {v : List Lat} {vo : Nat} {l : List Int} : fitV T v vo l = true ↔ Tree.mayV T = true ∧ mayV v vo = true ∧ Stake.mayV l = true ∧ v.length = l.length := by
  unfold fitV; simp
end Delta
set_option maxHeartbeats 1000000 in
theorem dfit_any (A : Option Addr) (n c : Nat) (NS : List Node) (vA : Option Addr) (vn vc vo : Nat) (v : List Lat) (ho : vo < 18446744073709551616) (LA : Option Addr) (ln lc : Nat) (l : List Int) (w : World) (h : NL w A n c NS) (hv : VL w vA vn vc v) (hl : Ints w .u64 LA ln lc l) :
    Calls Try.prog 20 #[.agg #[.slice A n c], .agg #[.slice vA vn vc, .int .u64 vo], .slice LA ln lc] w fun e w' => e = .returned (.bool (Delta.fitV NS v vo l)) ∧ Ext w w' := by
  have HT := Lib.hid (fun W (k : Ext w W) => treeMay_is A n c NS _ rfl W (h.ext k))
  have HM := Lib.hid (fun W (k : Ext w W) => vmay_any vA vn vc vo ho v W (hv.ext k))
  have HS := Lib.hid (fun W (k : Ext w W) => smay_any LA ln lc l W (hl.ext k))
  have hvl := hv.len
  have hll := hl.len
  have e : Delta.fitV NS v vo l = (Tree.mayV NS && (mayV v vo && (Stake.mayV l && decide (vn = ln)))) := by unfold Delta.fitV; rw [hvl, hll]
  rw [e]
  clear h hv hl hvl hll e
  generalize Tree.mayV NS = a at *
  generalize mayV v vo = b at *
  generalize Stake.mayV l = d at *
  cases a with
  | false =>
    go_enter Try.func20, Try.ntmps20
    go_wp2_with fail
    refine (HT.out _ ((by repeat (first | assumption | exact Ext.refl _ | refine Ext.alloc ?_ _ | refine Ext.drew ?_ | refine Ext.drewN ?_ _ | refine Ext.setCell ?_ (by first | (simp; done) | omega | (simp; omega)) _ | refine Ext.trans (by assumption) ?_)))).mono ?_
    rintro e w1 ⟨rfl, hx1⟩
    have k1 : Ext w w1 := Ext.trans ((by repeat (first | assumption | exact Ext.refl _ | refine Ext.alloc ?_ _ | refine Ext.drew ?_ | refine Ext.drewN ?_ _ | refine Ext.setCell ?_ (by first | (simp; done) | omega | (simp; omega)) _ | refine Ext.trans (by assumption) ?_))) hx1
    go_wp2
    go_ret
    exact ⟨rfl, k1⟩
  | true =>
    cases b with
    | false =>
      go_enter Try.func20, Try.ntmps20
      go_wp2_with fail
      refine (HT.out _ ((by repeat (first | assumption | exact Ext.refl _ | refine Ext.alloc ?_ _ | refine Ext.drew ?_ | refine Ext.drewN ?_ _ | refine Ext.setCell ?_ (by first | (simp; done) | omega | (simp; omega)) _ | refine Ext.trans (by assumption) ?_)))).mono ?_
      rintro e w1 ⟨rfl, hx1⟩
      have k1 : Ext w w1 := Ext.trans ((by repeat (first | assumption | exact Ext.refl _ | refine Ext.alloc ?_ _ | refine Ext.drew ?_ | refine Ext.drewN ?_ _ | refine Ext.setCell ?_ (by first | (simp; done) | omega | (simp; omega)) _ | refine Ext.trans (by assumption) ?_))) hx1
      obtain ⟨u0, u1, uf⟩ := hx1.box2 (B := w.heap.size + 1) (a := .slice vA vn vc) (b := .int .u64 vo) (by first | (simp; done) | (simp (maxDischargeDepth := 7) [go_sem]; done)) (by first | (simp; done) | (simp (maxDischargeDepth := 7) [go_sem]; done)) (by first | (simp; done) | (simp (maxDischargeDepth := 7) [go_sem]; done))
      have ul := lt_of_cell u0
      go_wp2_with fail
      refine (HM.out _ k1).mono ?_
      rintro e w2 ⟨rfl, hx2⟩
      go_wp2
      go_ret
      exact ⟨rfl, k1.trans hx2⟩
    | true =>
      have hq : ∃ q, decide (vn = ln) = q ∧ ((vn : Int) == ln) = q := by
        by_cases e : vn = ln
        · exact ⟨true, by simp [e], by simp [e]⟩
        · exact ⟨false, by simp [e], by simp; omega⟩
      obtain ⟨q, hq1, hq2⟩ := hq
      rw [hq1]
      clear hq1
      cases d with
      | false =>
        go_enter Try.func20, Try.ntmps20
        go_wp2_with fail
        refine (HT.out _ ((by repeat (first | assumption | exact Ext.refl _ | refine Ext.alloc ?_ _ | refine Ext.drew ?_ | refine Ext.drewN ?_ _ | refine Ext.setCell ?_ (by first | (simp; done) | omega | (simp; omega)) _ | refine Ext.trans (by assumption) ?_)))).mono ?_
        rintro e w1 ⟨rfl, hx1⟩
        have k1 : Ext w w1 := Ext.trans ((by repeat (first | assumption | exact Ext.refl _ | refine Ext.alloc ?_ _ | refine Ext.drew ?_ | refine Ext.drewN ?_ _ | refine Ext.setCell ?_ (by first | (simp; done) | omega | (simp; omega)) _ | refine Ext.trans (by assumption) ?_))) hx1
        obtain ⟨u0, u1, uf⟩ := hx1.box2 (B := w.heap.size + 1) (a := .slice vA vn vc) (b := .int .u64 vo) (by first | (simp; done) | (simp (maxDischargeDepth := 7) [go_sem]; done)) (by first | (simp; done) | (simp (maxDischargeDepth := 7) [go_sem]; done)) (by first | (simp; done) | (simp (maxDischargeDepth := 7) [go_sem]; done))
        have ul := lt_of_cell u0
        go_wp2_with fail
        refine (HM.out _ k1).mono ?_
        rintro e w2 ⟨rfl, hx2⟩
        replace uf := hx2.free u0 uf
        replace u0 := hx2.cell u0
        replace u1 := hx2.cell u1
        replace ul := lt_of_cell u0
        go_wp2_with fail
        refine (HS.out _ (k1.trans hx2)).mono ?_
        rintro e w3 ⟨rfl, rfl⟩
        go_wp2
        go_ret
        exact ⟨rfl, k1.trans hx2⟩
      | true =>
        go_enter Try.func20, Try.ntmps20
        go_wp2_with fail
        refine (HT.out _ ((by repeat (first | assumption | exact Ext.refl _ | refine Ext.alloc ?_ _ | refine Ext.drew ?_ | refine Ext.drewN ?_ _ | refine Ext.setCell ?_ (by first | (simp; done) | omega | (simp; omega)) _ | refine Ext.trans (by assumption) ?_)))).mono ?_
        rintro e w1 ⟨rfl, hx1⟩
        have k1 : Ext w w1 := Ext.trans ((by repeat (first | assumption | exact Ext.refl _ | refine Ext.alloc ?_ _ | refine Ext.drew ?_ | refine Ext.drewN ?_ _ | refine Ext.setCell ?_ (by first | (simp; done) | omega | (simp; omega)) _ | refine Ext.trans (by assumption) ?_))) hx1
        obtain ⟨u0, u1, uf⟩ := hx1.box2 (B := w.heap.size + 1) (a := .slice vA vn vc) (b := .int .u64 vo) (by first | (simp; done) | (simp (maxDischargeDepth := 7) [go_sem]; done)) (by first | (simp; done) | (simp (maxDischargeDepth := 7) [go_sem]; done)) (by first | (simp; done) | (simp (maxDischargeDepth := 7) [go_sem]; done))
        have ul := lt_of_cell u0
        go_wp2_with fail
        refine (HM.out _ k1).mono ?_
        rintro e w2 ⟨rfl, hx2⟩
        replace uf := hx2.free u0 uf
        replace u0 := hx2.cell u0
        replace u1 := hx2.cell u1
        replace ul := lt_of_cell u0
        go_wp2_with fail
        refine (HS.out _ (k1.trans hx2)).mono ?_
        rintro e w3 ⟨rfl, rfl⟩
        go_wp2
        go_ret
        exact ⟨by simp, k1.trans hx2⟩
theorem ints_nil (W : World) : IsInts W .u64 (.slice none 0 0) [] := ⟨none, 0, 0, rfl, Ints.nil_mk _ _⟩
set_option maxHeartbeats 1000000 in
theorem down_any (A : Option Addr) (n c : Nat) (NS : List Node) (vA : Option Addr) (vn vc vo : Nat) (v : List Lat) (ho : vo < 18446744073709551616) (LA : Option Addr) (ln lc : Nat) (l : List Int) (w : World) (h : NL w A n c NS) (hv : VL w vA vn vc v) (hl : Ints w .u64 LA ln lc l) :
    Calls Try.prog 8 #[.agg #[.slice A n c], .agg #[.slice vA vn vc, .int .u64 vo], .slice LA ln lc] w fun e w' => (∃ x, e = .returned (.tuple #[x, .bool (Delta.fitV NS v vo l)]) ∧ IsInts w' .u64 x (Delta.ownV NS v vo l)) ∧ Ext w w' := by
  have HF := Lib.hid (fun W (k : Ext w W) => dfit_any A n c NS vA vn vc vo v ho LA ln lc l W (h.ext k) (hv.ext k) (hl.ext k))
  cases hf : Delta.fitV NS v vo l with
  | false =>
    have e : Delta.ownV NS v vo l = [] := by unfold Delta.ownV; rw [hf, if_neg (by simp)]
    rw [e]
    rw [hf] at HF
    clear h hv hl hf e
    go_enter Try.func8, Try.ntmps8
    go_wp2_with fail
    refine (HF.out _ ((by repeat (first | assumption | exact Ext.refl _ | refine Ext.alloc ?_ _ | refine Ext.drew ?_ | refine Ext.drewN ?_ _ | refine Ext.setCell ?_ (by first | (simp; done) | omega | (simp; omega)) _ | refine Ext.trans (by assumption) ?_)))).mono ?_
    rintro e w1 ⟨rfl, hx1⟩
    have k1 : Ext w w1 := Ext.trans ((by repeat (first | assumption | exact Ext.refl _ | refine Ext.alloc ?_ _ | refine Ext.drew ?_ | refine Ext.drewN ?_ _ | refine Ext.setCell ?_ (by first | (simp; done) | omega | (simp; omega)) _ | refine Ext.trans (by assumption) ?_))) hx1
    go_wp2
    go_ret2
    exact ⟨⟨_, rfl, ints_nil _⟩, k1⟩
  | true =>
    obtain ⟨f1, f2, f3, f4⟩ := Delta.fitV_iff.1 hf
    obtain ⟨s1, s2, s3⟩ := Stake.mayV_iff.1 f3
    have hvl := hv.len
    have hll := hl.len
    have e : Delta.ownV NS v vo l = Delta.sumV NS v [] l := by unfold Delta.ownV; rw [hf, if_pos rfl]
    rw [e]
    rw [hf] at HF
    have HS := Lib.hid (fun W (k : Ext w W) => dsum_any A n c NS f1 vA vn vc vo v none 0 0 0 [] LA ln lc l (by omega) (by omega) s3 W (h.ext k) (hv.ext k) (VL.nil_mk _) (hl.ext k))
    clear h hv hl hf e f1 f2 f3 f4 s1 s2 s3 hvl hll
    go_enter Try.func8, Try.ntmps8
    go_wp2_with fail
    refine (HF.out _ ((by repeat (first | assumption | exact Ext.refl _ | refine Ext.alloc ?_ _ | refine Ext.drew ?_ | refine Ext.drewN ?_ _ | refine Ext.setCell ?_ (by first | (simp; done) | omega | (simp; omega)) _ | refine Ext.trans (by assumption) ?_)))).mono ?_
    rintro e w1 ⟨rfl, hx1⟩
    have k1 : Ext w w1 := Ext.trans ((by repeat (first | assumption | exact Ext.refl _ | refine Ext.alloc ?_ _ | refine Ext.drew ?_ | refine Ext.drewN ?_ _ | refine Ext.setCell ?_ (by first | (simp; done) | omega | (simp; omega)) _ | refine Ext.trans (by assumption) ?_))) hx1
    have t0 := hx1.cell (p := ⟨w.heap.size, 0, none⟩) (v := .slice A n c) (by first | (simp; done) | (simp (maxDischargeDepth := 7) [go_sem]; done))
    obtain ⟨u0, u1, uf⟩ := hx1.box2 (B := w.heap.size + 1) (a := .slice vA vn vc) (b := .int .u64 vo) (by first | (simp; done) | (simp (maxDischargeDepth := 7) [go_sem]; done)) (by first | (simp; done) | (simp (maxDischargeDepth := 7) [go_sem]; done)) (by first | (simp; done) | (simp (maxDischargeDepth := 7) [go_sem]; done))
    have ul := lt_of_cell u0
    go_wp2_with fail
    refine (HS.out _ k1).mono ?_
    rintro e w2 ⟨⟨x, rfl, hi⟩, hx2⟩
    go_wp2
    go_ret2
    exact ⟨⟨_, rfl, hi⟩, k1.trans hx2⟩
theorem keepT {W W' : World} {B : Nat} {a b c d e : Value} (h0 : W.cell? ⟨B, 0, none⟩ = some a) (h1 : W.cell? ⟨B + 1, 0, none⟩ = some b) (h2 : W.cell? ⟨B + 1, 1, none⟩ = some c) (h3 : W.cell? ⟨B + 1 + 1, 0, none⟩ = some d) (h4 : W.cell? ⟨B + 1 + 1, 1, none⟩ = some e) (hx : Ext W W') :
    W'.cell? ⟨B, 0, none⟩ = some a ∧ W'.cell? ⟨B + 1, 0, none⟩ = some b ∧ W'.cell? ⟨B + 1, 1, none⟩ = some c ∧ W'.cell? ⟨B + 1 + 1, 0, none⟩ = some d ∧ W'.cell? ⟨B + 1 + 1, 1, none⟩ = some e := ⟨hx.cell h0, hx.cell h1, hx.cell h2, hx.cell h3, hx.cell h4⟩

set_option maxHeartbeats 2000000 in
theorem dof_any (A : Option Addr) (n c : Nat) (NS : List Node) (vA : Option Addr) (vn vc vo : Nat) (v : List Lat) (ho : vo < 18446744073709551616) (uA : Option Addr) (un uc uo : Nat) (u : List Lat) (huo : uo < 18446744073709551616) (LA : Option Addr) (ln lc : Nat) (l : List Int) (w : World) (h : NL w A n c NS) (hv : VL w vA vn vc v) (hu : VL w uA un uc u) (hl : Ints w .u64 LA ln lc l) :
    Calls Try.prog 12 #[.agg #[.slice A n c], .agg #[.slice vA vn vc, .int .u64 vo], .agg #[.slice uA un uc, .int .u64 uo], .slice LA ln lc] w fun e w' => (∃ x y, e = .returned (.tuple #[x, y, .bool (Delta.fit2 NS v vo u uo l)]) ∧ IsInts w' .u64 x (Delta.cameV NS v vo u uo l) ∧ IsInts w' .u64 y (Delta.wentV NS v vo u uo l)) ∧ Ext w w' := by
  have HF1 := Lib.hid (fun W (k : Ext w W) => dfit_any A n c NS vA vn vc vo v ho LA ln lc l W (h.ext k) (hv.ext k) (hl.ext k))
  have HF2 := Lib.hid (fun W (k : Ext w W) => dfit_any A n c NS uA un uc uo u huo LA ln lc l W (h.ext k) (hu.ext k) (hl.ext k))
  cases hf : Delta.fitV NS v vo l with
  | false =>
    have hq : Delta.fit2 NS v vo u uo l = false := by unfold Delta.fit2; rw [hf]; rfl
    have e1 : Delta.cameV NS v vo u uo l = [] := by unfold Delta.cameV; rw [hq, if_neg (by simp)]
    have e2 : Delta.wentV NS v vo u uo l = [] := by unfold Delta.wentV; rw [hq, if_neg (by simp)]
    rw [e1, e2, hq]
    rw [hf] at HF1
    clear h hv hu hl hf e1 e2 hq
    go_enter Try.func12, Try.ntmps12
    go_wp2_with fail
    refine (HF1.out _ ((by repeat (first | assumption | exact Ext.refl _ | refine Ext.alloc ?_ _ | refine Ext.drew ?_ | refine Ext.drewN ?_ _ | refine Ext.setCell ?_ (by first | (simp; done) | omega | (simp; omega)) _ | refine Ext.trans (by assumption) ?_)))).mono ?_
    rintro e w1 ⟨rfl, hx1⟩
    have k1 : Ext w w1 := Ext.trans ((by repeat (first | assumption | exact Ext.refl _ | refine Ext.alloc ?_ _ | refine Ext.drew ?_ | refine Ext.drewN ?_ _ | refine Ext.setCell ?_ (by first | (simp; done) | omega | (simp; omega)) _ | refine Ext.trans (by assumption) ?_))) hx1
    have t0 := hx1.cell (p := ⟨w.heap.size, 0, none⟩) (v := .slice A n c) (by first | (simp; done) | (simp (maxDischargeDepth := 7) [go_sem]; done))
    have v0 := hx1.cell (p := ⟨w.heap.size + 1, 0, none⟩) (v := .slice vA vn vc) (by first | (simp; done) | (simp (maxDischargeDepth := 7) [go_sem]; done))
    have v1 := hx1.cell (p := ⟨w.heap.size + 1, 1, none⟩) (v := .int .u64 vo) (by first | (simp; done) | (simp (maxDischargeDepth := 7) [go_sem]; done))
    have u0 := hx1.cell (p := ⟨w.heap.size + 1 + 1, 0, none⟩) (v := .slice uA un uc) (by first | (simp; done) | (simp (maxDischargeDepth := 7) [go_sem]; done))
    have u1 := hx1.cell (p := ⟨w.heap.size + 1 + 1, 1, none⟩) (v := .int .u64 uo) (by first | (simp; done) | (simp (maxDischargeDepth := 7) [go_sem]; done))
    go_wp2
    refine bodyPost_ret (v := .tuple #[.slice none 0 0, .slice none 0 0, .bool false]) (by simp (maxDischargeDepth := 7) [results, Try.results12, go_sem]) rfl ⟨⟨_, _, rfl, ints_nil _, ints_nil _⟩, k1⟩
  | true =>
    rw [hf] at HF1
    cases hg : Delta.fitV NS u uo l with
    | false =>
      have hq : Delta.fit2 NS v vo u uo l = false := by unfold Delta.fit2; rw [hf, hg]; rfl
      have e1 : Delta.cameV NS v vo u uo l = [] := by unfold Delta.cameV; rw [hq, if_neg (by simp)]
      have e2 : Delta.wentV NS v vo u uo l = [] := by unfold Delta.wentV; rw [hq, if_neg (by simp)]
      rw [e1, e2, hq]
      rw [hg] at HF2
      clear h hv hu hl hf hg e1 e2 hq
      go_enter Try.func12, Try.ntmps12
      go_wp2_with fail
      refine (HF1.out _ ((by repeat (first | assumption | exact Ext.refl _ | refine Ext.alloc ?_ _ | refine Ext.drew ?_ | refine Ext.drewN ?_ _ | refine Ext.setCell ?_ (by first | (simp; done) | omega | (simp; omega)) _ | refine Ext.trans (by assumption) ?_)))).mono ?_
      rintro e w1 ⟨rfl, hx1⟩
      have k1 : Ext w w1 := Ext.trans ((by repeat (first | assumption | exact Ext.refl _ | refine Ext.alloc ?_ _ | refine Ext.drew ?_ | refine Ext.drewN ?_ _ | refine Ext.setCell ?_ (by first | (simp; done) | omega | (simp; omega)) _ | refine Ext.trans (by assumption) ?_))) hx1
      have t0 := hx1.cell (p := ⟨w.heap.size, 0, none⟩) (v := .slice A n c) (by first | (simp; done) | (simp (maxDischargeDepth := 7) [go_sem]; done))
      have v0 := hx1.cell (p := ⟨w.heap.size + 1, 0, none⟩) (v := .slice vA vn vc) (by first | (simp; done) | (simp (maxDischargeDepth := 7) [go_sem]; done))
      have v1 := hx1.cell (p := ⟨w.heap.size + 1, 1, none⟩) (v := .int .u64 vo) (by first | (simp; done) | (simp (maxDischargeDepth := 7) [go_sem]; done))
      have u0 := hx1.cell (p := ⟨w.heap.size + 1 + 1, 0, none⟩) (v := .slice uA un uc) (by first | (simp; done) | (simp (maxDischargeDepth := 7) [go_sem]; done))
      have u1 := hx1.cell (p := ⟨w.heap.size + 1 + 1, 1, none⟩) (v := .int .u64 uo) (by first | (simp; done) | (simp (maxDischargeDepth := 7) [go_sem]; done))
      go_wp2_with fail
      refine (HF2.out _ k1).mono ?_
      rintro e w2 ⟨rfl, hx2⟩
      go_wp2
      refine bodyPost_ret (v := .tuple #[.slice none 0 0, .slice none 0 0, .bool false]) (by simp (maxDischargeDepth := 7) [results, Try.results12, go_sem]) rfl ⟨⟨_, _, rfl, ints_nil _, ints_nil _⟩, k1.trans hx2⟩
    | true =>
      rw [hg] at HF2
      have hq : Delta.fit2 NS v vo u uo l = true := by unfold Delta.fit2; rw [hf, hg]; rfl
      obtain ⟨f1, f2, f3, f4⟩ := Delta.fitV_iff.1 hf
      obtain ⟨g1, g2, g3, g4⟩ := Delta.fitV_iff.1 hg
      obtain ⟨s1, s2, s3⟩ := Stake.mayV_iff.1 f3
      have hvl := hv.len
      have hul := hu.len
      have hll := hl.len
      have e1 : Delta.cameV NS v vo u uo l = Delta.sumV NS u v l := by unfold Delta.cameV; rw [hq, if_pos rfl]
      have e2 : Delta.wentV NS v vo u uo l = Delta.sumV NS v u l := by unfold Delta.wentV; rw [hq, if_pos rfl]
      rw [e1, e2, hq]
      have HS1 := Lib.hid (fun W (k : Ext w W) => dsum_any A n c NS f1 uA un uc uo u vA vn vc vo v LA ln lc l (by omega) (by omega) s3 W (h.ext k) (hu.ext k) (hv.ext k) (hl.ext k))
      have HS2 := Lib.hid (fun W (k : Ext w W) => dsum_any A n c NS f1 vA vn vc vo v uA un uc uo u LA ln lc l (by omega) (by omega) s3 W (h.ext k) (hv.ext k) (hu.ext k) (hl.ext k))
      clear h hv hu hl hf hg e1 e2 hq f1 f2 f3 f4 g1 g2 g3 g4 s1 s2 s3 hvl hul hll
      go_enter Try.func12, Try.ntmps12
      go_wp2_with fail
      refine (HF1.out _ ((by repeat (first | assumption | exact Ext.refl _ | refine Ext.alloc ?_ _ | refine Ext.drew ?_ | refine Ext.drewN ?_ _ | refine Ext.setCell ?_ (by first | (simp; done) | omega | (simp; omega)) _ | refine Ext.trans (by assumption) ?_)))).mono ?_
      rintro e w1 ⟨rfl, hx1⟩
      have k1 : Ext w w1 := Ext.trans ((by repeat (first | assumption | exact Ext.refl _ | refine Ext.alloc ?_ _ | refine Ext.drew ?_ | refine Ext.drewN ?_ _ | refine Ext.setCell ?_ (by first | (simp; done) | omega | (simp; omega)) _ | refine Ext.trans (by assumption) ?_))) hx1
      have t0 := hx1.cell (p := ⟨w.heap.size, 0, none⟩) (v := .slice A n c) (by first | (simp; done) | (simp (maxDischargeDepth := 7) [go_sem]; done))
      have v0 := hx1.cell (p := ⟨w.heap.size + 1, 0, none⟩) (v := .slice vA vn vc) (by first | (simp; done) | (simp (maxDischargeDepth := 7) [go_sem]; done))
      have v1 := hx1.cell (p := ⟨w.heap.size + 1, 1, none⟩) (v := .int .u64 vo) (by first | (simp; done) | (simp (maxDischargeDepth := 7) [go_sem]; done))
      have u0 := hx1.cell (p := ⟨w.heap.size + 1 + 1, 0, none⟩) (v := .slice uA un uc) (by first | (simp; done) | (simp (maxDischargeDepth := 7) [go_sem]; done))
      have u1 := hx1.cell (p := ⟨w.heap.size + 1 + 1, 1, none⟩) (v := .int .u64 uo) (by first | (simp; done) | (simp (maxDischargeDepth := 7) [go_sem]; done))
      go_wp2_with fail
      refine (HF2.out _ k1).mono ?_
      rintro e w2 ⟨rfl, hx2⟩
      replace t0 := hx2.cell t0
      replace v0 := hx2.cell v0
      replace v1 := hx2.cell v1
      replace u0 := hx2.cell u0
      replace u1 := hx2.cell u1
      have kk := k1.trans hx2
      clear hx1 hx2 k1 HF1 HF2
      go_upto_region 3 with fail
      have T0 := Lib.hid (fun W (hx : Ext w2 W) => keepT t0 v0 v1 u0 u1 hx)
      go_region_held3 (fun w' => w'.cell? ⟨w.heap.size, 0, none⟩ = some (.slice A n c) ∧ w'.cell? ⟨w.heap.size + 1, 0, none⟩ = some (.slice vA vn vc) ∧ w'.cell? ⟨w.heap.size + 1, 1, none⟩ = some (.int .u64 vo) ∧ w'.cell? ⟨w.heap.size + 1 + 1, 0, none⟩ = some (.slice uA un uc) ∧ w'.cell? ⟨w.heap.size + 1 + 1, 1, none⟩ = some (.int .u64 uo)) (exact T0.out _ ((by repeat (first | assumption | exact Ext.refl _ | refine Ext.alloc ?_ _ | refine Ext.drew ?_ | refine Ext.drewN ?_ _ | refine Ext.setCell ?_ (by first | (simp; done) | omega | (simp; omega)) _ | refine Ext.trans (by assumption) ?_)))) (first | (go_at_call 21; (with_reducible refine (HS1.out _ (Ext.trans kk ((by repeat (first | assumption | exact Ext.refl _ | refine Ext.alloc ?_ _ | refine Ext.drew ?_ | refine Ext.drewN ?_ _ | refine Ext.setCell ?_ (by first | (simp; done) | omega | (simp; omega)) _ | refine Ext.trans (by assumption) ?_))))).mono ?_); rintro e wa ⟨⟨xa, rfl, ha⟩, hxa⟩; have ka : Ext w2 wa := Ext.trans ((by repeat (first | assumption | exact Ext.refl _ | refine Ext.alloc ?_ _ | refine Ext.drew ?_ | refine Ext.drewN ?_ _ | refine Ext.setCell ?_ (by first | (simp; done) | omega | (simp; omega)) _ | refine Ext.trans (by assumption) ?_))) hxa) | (go_at_call 21; (with_reducible refine (HS2.out _ (Ext.trans kk ((by repeat (first | assumption | exact Ext.refl _ | refine Ext.alloc ?_ _ | refine Ext.drew ?_ | refine Ext.drewN ?_ _ | refine Ext.setCell ?_ (by first | (simp; done) | omega | (simp; omega)) _ | refine Ext.trans (by assumption) ?_))))).mono ?_); rintro e wb ⟨⟨xb, rfl, hb⟩, hxb⟩; have kb : Ext w2 wb := Ext.trans ((by repeat (first | assumption | exact Ext.refl _ | refine Ext.alloc ?_ _ | refine Ext.drew ?_ | refine Ext.drewN ?_ _ | refine Ext.setCell ?_ (by first | (simp; done) | omega | (simp; omega)) _ | refine Ext.trans (by assumption) ?_))) hxb))
      all_goals
        go_wp2
        refine bodyPost_ret (v := .tuple #[xa, xb, .bool true]) (by simp (maxDischargeDepth := 7) [results, Try.results12, go_sem]) rfl ⟨⟨_, _, rfl, IsInts.ext ha ((by repeat (first | assumption | exact Ext.refl _ | refine Ext.alloc ?_ _ | refine Ext.drew ?_ | refine Ext.drewN ?_ _ | refine Ext.setCell ?_ (by first | (simp; done) | omega | (simp; omega)) _ | refine Ext.trans (by assumption) ?_))), IsInts.ext hb ((by repeat (first | assumption | exact Ext.refl _ | refine Ext.alloc ?_ _ | refine Ext.drew ?_ | refine Ext.drewN ?_ _ | refine Ext.setCell ?_ (by first | (simp; done) | omega | (simp; omega)) _ | refine Ext.trans (by assumption) ?_)))⟩, Ext.trans kk (by assumption)⟩
theorem dsub_is (A : Option Addr) (n c : Nat) (NS : List Node) (B : Option Addr) (m d : Nat) (l : List Int) (b : Bool) (r : List Int) (hb : (Weight.subV NS l).isSome = b) (hr : (Weight.subV NS l).getD [] = r) (w : World) (h : NL w A n c NS) (hl : Ints w .u64 B m d l) :
    Calls Try.prog 23 #[.agg #[.slice A n c], .slice B m d] w fun e w' => (∃ v, e = .returned (.tuple #[v, .bool b]) ∧ IsInts w' .u64 v r) ∧ Ext w w' := by
  subst hb hr
  exact (sub_w_any A n c NS B m d l w h hl).mono fun e w' ⟨⟨v, he, hv⟩, hx⟩ => ⟨⟨v, he, hv.ints⟩, hx⟩
set_option maxHeartbeats 1000000 in
theorem dweights_any (A : Option Addr) (n c : Nat) (NS : List Node) (vA : Option Addr) (vn vc vo : Nat) (v : List Lat) (ho : vo < 18446744073709551616) (LA : Option Addr) (ln lc : Nat) (l : List Int) (w : World) (h : NL w A n c NS) (hv : VL w vA vn vc v) (hl : Ints w .u64 LA ln lc l) :
    Calls Try.prog 10 #[.agg #[.slice A n c], .agg #[.slice vA vn vc, .int .u64 vo], .slice LA ln lc] w fun e w' => (∃ x, e = .returned (.tuple #[x, .bool (Delta.heavyV NS v vo l).isSome]) ∧ IsInts w' .u64 x ((Delta.heavyV NS v vo l).getD [])) ∧ Ext w w' := by
  have HO := Lib.hid (fun W (k : Ext w W) => down_any A n c NS vA vn vc vo v ho LA ln lc l W (h.ext k) (hv.ext k) (hl.ext k))
  have HT := Lib.hid (fun W (k : Ext w W) => h.ext k)
  clear h hv hl
  cases hf : Delta.fitV NS v vo l with
  | false =>
    have e : Delta.heavyV NS v vo l = none := by unfold Delta.heavyV; rw [hf, if_neg (by simp)]
    rw [e]
    rw [hf] at HO
    clear hf e
    go_enter Try.func10, Try.ntmps10
    go_wp2_with fail
    refine (HO.out _ ((by repeat (first | assumption | exact Ext.refl _ | refine Ext.alloc ?_ _ | refine Ext.drew ?_ | refine Ext.drewN ?_ _ | refine Ext.setCell ?_ (by first | (simp; done) | omega | (simp; omega)) _ | refine Ext.trans (by assumption) ?_)))).mono ?_
    rintro e w1 ⟨⟨x, rfl, hi⟩, hx1⟩
    have k1 : Ext w w1 := Ext.trans ((by repeat (first | assumption | exact Ext.refl _ | refine Ext.alloc ?_ _ | refine Ext.drew ?_ | refine Ext.drewN ?_ _ | refine Ext.setCell ?_ (by first | (simp; done) | omega | (simp; omega)) _ | refine Ext.trans (by assumption) ?_))) hx1
    go_wp2
    go_ret2
    exact ⟨⟨_, rfl, ints_nil _⟩, k1⟩
  | true =>
    have e : Delta.heavyV NS v vo l = Weight.subV NS (Delta.sumV NS v [] l) := by unfold Delta.heavyV; rw [hf, if_pos rfl]
    have e2 : Delta.ownV NS v vo l = Delta.sumV NS v [] l := by unfold Delta.ownV; rw [hf, if_pos rfl]
    rw [e]
    rw [hf, e2] at HO
    clear hf e e2
    obtain ⟨b, hb⟩ : ∃ b, (Weight.subV NS (Delta.sumV NS v [] l)).isSome = b := ⟨_, rfl⟩
    obtain ⟨r, hr⟩ : ∃ r, (Weight.subV NS (Delta.sumV NS v [] l)).getD [] = r := ⟨_, rfl⟩
    have HW := Lib.hid (fun B m d W (k : Ext w W) (g : Ints W .u64 B m d (Delta.sumV NS v [] l)) => dsub_is A n c NS B m d _ b r hb hr W (HT.out W k) g)
    rw [hb, hr]
    clear hb hr HT
    go_enter Try.func10, Try.ntmps10
    go_wp2_with fail
    refine (HO.out _ ((by repeat (first | assumption | exact Ext.refl _ | refine Ext.alloc ?_ _ | refine Ext.drew ?_ | refine Ext.drewN ?_ _ | refine Ext.setCell ?_ (by first | (simp; done) | omega | (simp; omega)) _ | refine Ext.trans (by assumption) ?_)))).mono ?_
    rintro e w1 ⟨⟨x, rfl, ⟨B, m, d, rfl, hi⟩⟩, hx1⟩
    have k1 : Ext w w1 := Ext.trans ((by repeat (first | assumption | exact Ext.refl _ | refine Ext.alloc ?_ _ | refine Ext.drew ?_ | refine Ext.drewN ?_ _ | refine Ext.setCell ?_ (by first | (simp; done) | omega | (simp; omega)) _ | refine Ext.trans (by assumption) ?_))) hx1
    have t0 := hx1.cell (p := ⟨w.heap.size, 0, none⟩) (v := .slice A n c) (by first | (simp; done) | (simp (maxDischargeDepth := 7) [go_sem]; done))
    go_wp2_with fail
    refine (HW.out _ _ _ _ k1 hi).mono ?_
    rintro e w2 ⟨⟨y, rfl, hj⟩, hx2⟩
    go_wp2
    go_ret2
    exact ⟨⟨_, rfl, hj⟩, k1.trans hx2⟩
end Go.Proofs.Ytjhhfininnlkfaa
