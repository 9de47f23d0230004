/- DeltaBound: what comes is no more than all have, nor what goes; each is told just if both weights are; for every input. -/
import Derived.Test.YtjhhfininnlkfaaDoorDeltaAwake
import Derived.Test.YtjhhfininnlkfaaDoorDeltaLaw
import Derived.Test.YtjhhfininnlkfaaDoorLatOpen
import Derived.Test.YtjhhfininnlkfaaDoorStakeTab
namespace Go.Proofs.YtjhhfininnlkfaaDoor
open Go.RowKit Go.WideShapes Go.ChangeShapes Go.Joins Go.Deep Go.ChangeAt
set_option linter.unusedVariables false
set_option linter.unusedSimpArgs false









namespace Delta
open Weight
theorem sum_all (l : List Int) {n : Nat} (h8 : n ≤ 8) : Stake.sumB (Stake.fOf l) 18446744073709551615 n = sum n (at' l) := by
  induction n with
  | zero => rfl
  | succ n ih =>
    rw [Stake.sumB_succ, sum_succ, ih (by omega), Stake.all_bit (by omega), if_pos rfl]
    rfl
theorem one_col {T : List Node} {v but : List Lat} {l : List Int} {k : Nat} : sum T.length (fun p => oneF T v but l p k) ≤ at' l k := by
  cases h : hasB T v but k with
  | false =>
    rw [sum_zero (fun p _ => by unfold oneF; rw [h]; simp)]
    exact Nat.zero_le _
  | true =>
    have hp : plc T v k < T.length := by
      unfold hasB at h
      simp at h
      have := List.idxOf_lt_length_of_mem h.2
      unfold plc
      unfold Tree.roots at this ⊢
      simpa using this
    have e : sum T.length (fun p => oneF T v but l p k) = sum T.length (fun p => if p = plc T v k then at' l k else 0) := sum_congr (fun p _ => by
      unfold oneF
      rw [h]
      by_cases e : p = plc T v k
      · rw [if_pos ⟨rfl, e.symm⟩, if_pos e]
      · rw [if_neg (fun q => e q.2.symm), if_neg e])
    rw [e, sum_one hp]
    exact Nat.le_refl _
theorem sum_sumV {T : List Node} {v but : List Lat} {l : List Int} (hm : Stake.mayV l = true) (hl : v.length = l.length) : sum (sumV T v but l).length (at' (sumV T v but l)) ≤ Stake.ofV l 18446744073709551615 := by
  obtain ⟨s1, s2, s3⟩ := Stake.mayV_iff.1 hm
  rw [Stake.ofV_eq hm, sum_all l s2, sumV_len]
  have e : sum T.length (at' (sumV T v but l)) = sum T.length (fun p => sum v.length (fun k => oneF T v but l p k)) := sum_congr (fun p hp => by rw [at_sumV hp, ownF_sum])
  rw [e, sum_swap, hl]
  exact sum_le (fun k _ => one_col)
theorem came_le {T : List Node} {v u : List Lat} {vo uo : Nat} {l : List Int} : (cameV T v vo u uo l).length = (wentV T v vo u uo l).length ∧ sum (cameV T v vo u uo l).length (at' (cameV T v vo u uo l)) ≤ Stake.ofV l 18446744073709551615 ∧ sum (wentV T v vo u uo l).length (at' (wentV T v vo u uo l)) ≤ Stake.ofV l 18446744073709551615 := by
  unfold cameV wentV
  cases h : fit2 T v vo u uo l with
  | false => simp [sum]
  | true =>
    have hf : fitV T v vo l = true ∧ fitV T u uo l = true := by unfold fit2 at h; simpa using h
    obtain ⟨_, _, f3, f4⟩ := fitV_iff.1 hf.1
    obtain ⟨_, _, _, g4⟩ := fitV_iff.1 hf.2
    rw [if_pos rfl, if_pos rfl]
    exact ⟨by rw [sumV_len, sumV_len], sum_sumV f3 g4, sum_sumV f3 f4⟩
theorem sum_up' {m n : Nat} (h : m ≤ n) (f : Nat → Nat) : sum m f ≤ sum n f := by
  obtain ⟨d, rfl⟩ : ∃ d, n = m + d := ⟨n - m, by omega⟩
  induction d with
  | zero => exact Nat.le_refl _
  | succ d ih => have := ih (by omega); rw [← Nat.add_assoc, sum_succ]; omega
end Delta
set_option maxHeartbeats 4000000 in
theorem DeltaBound_walk {w : World} (hT : Tab w) (tA : Option Addr) (tn tc : Nat) (t : List Node) (ht : NL w tA tn tc t) (vA : Option Addr) (vn vc : Nat) (v : List Lat) (vo : Nat) (hvo : vo < 18446744073709551616) (hv : VL w vA vn vc v) (uA : Option Addr) (un uc : Nat) (u : List Lat) (uo : Nat) (huo : uo < 18446744073709551616) (hu : VL w uA un uc u) (LA : Option Addr) (ln lc : Nat) (l : List Int) (hl : Ints w .u64 LA ln lc l) :
    Calls Tryd.prog 4 #[.agg #[.slice tA tn tc], .agg #[.slice vA vn vc, .int .u64 vo], .agg #[.slice uA un uc, .int .u64 uo], .slice LA ln lc] w fun e' w' => e' = .returned (.bool true) ∧ Ext w w' := by
  have HAW := Lib.hid (fun W => awake_any W)
  by_cases h1 : 20 < tn
  · have g1 : (20 : Int) < tn := by omega
    clear ht hv hu hl hT
    go_enter Tryd.func4, Tryd.ntmps4
    go_wp2_with fail
    refine (HAW.out _).mono ?_
    rintro e0 w0 ⟨rfl, hx0⟩
    have k0 : Ext w w0 := Ext.trans ((by repeat (first | assumption | exact Ext.refl _ | refine Ext.alloc ?_ _ | refine Ext.drew ?_ | refine Ext.drewN ?_ _ | refine Ext.setCell ?_ (by first | (simp; done) | omega | (simp; omega)) _ | refine Ext.trans (by assumption) ?_))) hx0
    have t0 := hx0.cell (p := ⟨w.heap.size, 0, none⟩) (v := .slice tA tn tc) (by first | (simp; done) | (simp (maxDischargeDepth := 7) [go_sem]; done))
    have v0 := hx0.cell (p := ⟨w.heap.size + 1, 0, none⟩) (v := .slice vA vn vc) (by first | (simp; done) | (simp (maxDischargeDepth := 7) [go_sem]; done))
    have v1 := hx0.cell (p := ⟨w.heap.size + 1, 1, none⟩) (v := .int .u64 vo) (by first | (simp; done) | (simp (maxDischargeDepth := 7) [go_sem]; done))
    have u0 := hx0.cell (p := ⟨w.heap.size + 1 + 1, 0, none⟩) (v := .slice uA un uc) (by first | (simp; done) | (simp (maxDischargeDepth := 7) [go_sem]; done))
    have u1 := hx0.cell (p := ⟨w.heap.size + 1 + 1, 1, none⟩) (v := .int .u64 uo) (by first | (simp; done) | (simp (maxDischargeDepth := 7) [go_sem]; done))
    go_wp2
    go_ret
    exact ⟨rfl, k0⟩
  have g1 : ¬ (20 : Int) < tn := by omega
  by_cases h2 : 20 < vn
  · have g2 : (20 : Int) < vn := by omega
    clear ht hv hu hl hT
    go_enter Tryd.func4, Tryd.ntmps4
    go_wp2_with fail
    refine (HAW.out _).mono ?_
    rintro e0 w0 ⟨rfl, hx0⟩
    have k0 : Ext w w0 := Ext.trans ((by repeat (first | assumption | exact Ext.refl _ | refine Ext.alloc ?_ _ | refine Ext.drew ?_ | refine Ext.drewN ?_ _ | refine Ext.setCell ?_ (by first | (simp; done) | omega | (simp; omega)) _ | refine Ext.trans (by assumption) ?_))) hx0
    have t0 := hx0.cell (p := ⟨w.heap.size, 0, none⟩) (v := .slice tA tn tc) (by first | (simp; done) | (simp (maxDischargeDepth := 7) [go_sem]; done))
    have v0 := hx0.cell (p := ⟨w.heap.size + 1, 0, none⟩) (v := .slice vA vn vc) (by first | (simp; done) | (simp (maxDischargeDepth := 7) [go_sem]; done))
    have v1 := hx0.cell (p := ⟨w.heap.size + 1, 1, none⟩) (v := .int .u64 vo) (by first | (simp; done) | (simp (maxDischargeDepth := 7) [go_sem]; done))
    have u0 := hx0.cell (p := ⟨w.heap.size + 1 + 1, 0, none⟩) (v := .slice uA un uc) (by first | (simp; done) | (simp (maxDischargeDepth := 7) [go_sem]; done))
    have u1 := hx0.cell (p := ⟨w.heap.size + 1 + 1, 1, none⟩) (v := .int .u64 uo) (by first | (simp; done) | (simp (maxDischargeDepth := 7) [go_sem]; done))
    go_wp2
    go_ret
    exact ⟨rfl, k0⟩
  have g2 : ¬ (20 : Int) < vn := by omega
  by_cases h3 : 20 < un
  · have g3 : (20 : Int) < un := by omega
    clear ht hv hu hl hT
    go_enter Tryd.func4, Tryd.ntmps4
    go_wp2_with fail
    refine (HAW.out _).mono ?_
    rintro e0 w0 ⟨rfl, hx0⟩
    have k0 : Ext w w0 := Ext.trans ((by repeat (first | assumption | exact Ext.refl _ | refine Ext.alloc ?_ _ | refine Ext.drew ?_ | refine Ext.drewN ?_ _ | refine Ext.setCell ?_ (by first | (simp; done) | omega | (simp; omega)) _ | refine Ext.trans (by assumption) ?_))) hx0
    have t0 := hx0.cell (p := ⟨w.heap.size, 0, none⟩) (v := .slice tA tn tc) (by first | (simp; done) | (simp (maxDischargeDepth := 7) [go_sem]; done))
    have v0 := hx0.cell (p := ⟨w.heap.size + 1, 0, none⟩) (v := .slice vA vn vc) (by first | (simp; done) | (simp (maxDischargeDepth := 7) [go_sem]; done))
    have v1 := hx0.cell (p := ⟨w.heap.size + 1, 1, none⟩) (v := .int .u64 vo) (by first | (simp; done) | (simp (maxDischargeDepth := 7) [go_sem]; done))
    have u0 := hx0.cell (p := ⟨w.heap.size + 1 + 1, 0, none⟩) (v := .slice uA un uc) (by first | (simp; done) | (simp (maxDischargeDepth := 7) [go_sem]; done))
    have u1 := hx0.cell (p := ⟨w.heap.size + 1 + 1, 1, none⟩) (v := .int .u64 uo) (by first | (simp; done) | (simp (maxDischargeDepth := 7) [go_sem]; done))
    go_wp2
    go_ret
    exact ⟨rfl, k0⟩
  have g3 : ¬ (20 : Int) < un := by omega
  have HO := Lib.hid (fun W (k : Ext w W) => dof_any tA tn tc t vA vn vc vo v hvo uA un uc uo u huo LA ln lc l W (ht.ext k) (hv.ext k) (hu.ext k) (hl.ext k))
  have HW := Lib.hid (fun W (k : Ext w W) => dweights_any tA tn tc t vA vn vc vo v hvo LA ln lc l W (ht.ext k) (hv.ext k) (hl.ext k))
  have HN := Lib.hid (fun W (k : Ext w W) => down_any tA tn tc t uA un uc uo u huo LA ln lc l W (ht.ext k) (hu.ext k) (hl.ext k))
  have HT := Lib.hid (fun W (k : Ext w W) => total_any LA ln lc l W (hl.ext k) (hT.ext k))
  obtain ⟨hlen, hca, hcb⟩ := Delta.came_le (T := t) (v := v) (u := u) (vo := vo) (uo := uo) (l := l)
  have htot := Stake.ofV_le l 18446744073709551615
  rw [← hlen] at hcb
  have hq : Delta.fit2 t v vo u uo l = (Delta.fitV t v vo l && Delta.fitV t u uo l) := rfl
  have hs : (Delta.heavyV t v vo l).isSome = Delta.fitV t v vo l := by
    cases hf : Delta.fitV t v vo l with
    | false => rw [Delta.heavy_no hf]; rfl
    | true => rw [Delta.heavy_yes hf]; rfl
  rw [hq] at HO
  rw [hs] at HW
  clear ht hv hu hl hT h1 h2 h3 hq hs
  generalize Delta.cameV t v vo u uo l = a at *
  generalize Delta.wentV t v vo u uo l = b at *
  generalize (Delta.heavyV t v vo l).getD [] = hvy at *
  generalize Delta.ownV t u uo l = own at *
  generalize Stake.ofV l 18446744073709551615 = tot at *
  generalize Delta.fitV t u uo l = q2 at *
  cases hq1 : Delta.fitV t v vo l with
  | false =>
    rw [hq1] at HO HW
    rw [Bool.false_and] at HO
    clear hq1
    go_enter Tryd.func4, Tryd.ntmps4
    go_wp2_with fail
    refine (HAW.out _).mono ?_
    rintro e0 w0 ⟨rfl, hx0⟩
    have k0 : Ext w w0 := Ext.trans ((by repeat (first | assumption | exact Ext.refl _ | refine Ext.alloc ?_ _ | refine Ext.drew ?_ | refine Ext.drewN ?_ _ | refine Ext.setCell ?_ (by first | (simp; done) | omega | (simp; omega)) _ | refine Ext.trans (by assumption) ?_))) hx0
    have t0 := hx0.cell (p := ⟨w.heap.size, 0, none⟩) (v := .slice tA tn tc) (by first | (simp; done) | (simp (maxDischargeDepth := 7) [go_sem]; done))
    have v0 := hx0.cell (p := ⟨w.heap.size + 1, 0, none⟩) (v := .slice vA vn vc) (by first | (simp; done) | (simp (maxDischargeDepth := 7) [go_sem]; done))
    have v1 := hx0.cell (p := ⟨w.heap.size + 1, 1, none⟩) (v := .int .u64 vo) (by first | (simp; done) | (simp (maxDischargeDepth := 7) [go_sem]; done))
    have u0 := hx0.cell (p := ⟨w.heap.size + 1 + 1, 0, none⟩) (v := .slice uA un uc) (by first | (simp; done) | (simp (maxDischargeDepth := 7) [go_sem]; done))
    have u1 := hx0.cell (p := ⟨w.heap.size + 1 + 1, 1, none⟩) (v := .int .u64 uo) (by first | (simp; done) | (simp (maxDischargeDepth := 7) [go_sem]; done))
    clear HAW hx0
    go_wp2_with fail
    refine (HO.out _ k0).mono ?_
    rintro e w1 ⟨⟨x, y, rfl, ⟨A1, n1, c1, rfl, h1⟩, ⟨A2, n2, c2, rfl, h2⟩⟩, hx1⟩
    have k1 := k0.trans hx1
    replace t0 := hx1.cell t0
    replace v0 := hx1.cell v0
    replace v1 := hx1.cell v1
    replace u0 := hx1.cell u0
    replace u1 := hx1.cell u1
    clear HO k0 hx1
    go_wp2_with fail
    refine (HW.out _ k1).mono ?_
    rintro e w2 ⟨⟨x, rfl, ⟨A3, n3, c3, rfl, h3⟩⟩, hx2⟩
    have k2 := k1.trans hx2
    replace t0 := hx2.cell t0
    replace v0 := hx2.cell v0
    replace v1 := hx2.cell v1
    replace u0 := hx2.cell u0
    replace u1 := hx2.cell u1
    replace h1 := h1.ext hx2
    replace h2 := h2.ext hx2
    clear HW k1 hx2 h3
    go_wp2_with fail
    refine (HN.out _ k2).mono ?_
    rintro e w3 ⟨⟨x, rfl, ⟨A4, n4, c4, rfl, h4⟩⟩, hx3⟩
    have k3 := k2.trans hx3
    replace h1 := h1.ext hx3
    replace h2 := h2.ext hx3
    clear HN k2 hx3 h4 t0 v0 v1 u0 u1
    obtain rfl : a.length = n1 := h1.len
    obtain rfl : a.length = n2 := hlen.trans h2.len
    have hroom := h1.room
    have H1 := Lib.hid (fun W (kx : Ext w3 W) => h1.ext kx)
    have H2 := Lib.hid (fun W (kx : Ext w3 W) => h2.ext kx)
    clear h1 h2
    have E0 : ((.int .u64 0 : Value) = .int .u64 (Weight.sum 0 (Weight.at' a) : Nat)) ∧ ((.int .u64 0 : Value) = .int .u64 (Weight.sum 0 (Weight.at' b) : Nat)) := ⟨rfl, rfl⟩
    go_wp2
    go_loopw [17, 18, 19] (fun p q i' wr => ∃ j : Nat, j ≤ a.length ∧ i' = .int .i64 j ∧ p = .int .u64 (Weight.sum j (Weight.at' a) : Nat) ∧ q = .int .u64 (Weight.sum j (Weight.at' b) : Nat) ∧ wr = w3) (fun _ _ i' _ => a.length - (intOf i').toNat)
    case atStart => exact ⟨0, Nat.zero_le _, rfl, E0.1, E0.2, rfl⟩
    case round =>
      obtain ⟨j, hj, rfl, rfl, rfl, rfl⟩ := hrel
      by_cases hlt : j < a.length
      · have gj : (j : Int) < a.length := by omega
        have i1 := H1.out _ (Ext.refl _)
        have i2 := H2.out _ (Ext.refl _)
        obtain ⟨b1, o1, rfl, hc1⟩ := i1.cells (by omega)
        obtain ⟨b2, o2, rfl, hc2⟩ := i2.cells (by omega)
        have d1 := hc1 j hlt
        have d2 := hc2 j hlt
        rw [(i1.nat64 j).1] at d1
        rw [(i2.nat64 j).1] at d2
        have s1 := Weight.sum_succ j (Weight.at' a)
        have s2 := Weight.sum_succ j (Weight.at' b)
        have m1 := Delta.sum_up' (show j + 1 ≤ a.length by omega) (Weight.at' a)
        have m2 := Delta.sum_up' (show j + 1 ≤ a.length by omega) (Weight.at' b)
        rw [s1] at m1
        rw [s2] at m2
        have HS1 := Lib.hid s1
        have HS2 := Lib.hid s2
        have w1' : IntKind.u64.wrap (((Weight.sum j (Weight.at' a) : Nat) : Int) + ((Weight.at' a j : Nat) : Int)) = ((Weight.sum j (Weight.at' a) + Weight.at' a j : Nat) : Int) := by rw [IntKind.wrap_u64]; omega
        have w2' : IntKind.u64.wrap (((Weight.sum j (Weight.at' b) : Nat) : Int) + ((Weight.at' b j : Nat) : Int)) = ((Weight.sum j (Weight.at' b) + Weight.at' b j : Nat) : Int) := by rw [IntKind.wrap_u64]; omega
        clear i1 i2 hc1 hc2 s1 s2 m1 m2
        go_wp2
        go_roundw
        case rel =>
          first | exact ⟨j + 1, by omega, by go_num, (by rw [HS1.out]; first | rfl | simp), (by rw [HS2.out]; first | rfl | simp), by first | rfl | trivial⟩ | (refine ⟨_, _, _, ⟨j + 1, by omega, ?_, (by rw [HS1.out]; first | rfl | simp), (by rw [HS2.out]; first | rfl | simp), rfl⟩, rfl, rfl, rfl⟩; go_num)
        case measure => simp [intOf]; omega
      · obtain rfl : j = a.length := by omega
        have gp : ((Weight.sum a.length (Weight.at' a) : Nat) : Int) ≤ (tot : Nat) := by omega
        have gq : ((Weight.sum a.length (Weight.at' b) : Nat) : Int) ≤ (tot : Nat) := by omega
        clear H1 H2 E0
        generalize Weight.sum a.length (Weight.at' a) = sa at *
        generalize Weight.sum a.length (Weight.at' b) = sb at *
        go_wp2_with fail
        refine (HT.out _ k3).mono ?_
        rintro e w4 ⟨rfl, hx4⟩
        go_wp2_with fail
        refine (HT.out _ (k3.trans hx4)).mono ?_
        rintro e w5 ⟨rfl, hx5⟩
        go_wp2
        go_ret
        exact ⟨by simp, k3.trans (hx4.trans hx5)⟩
  | true =>
    rw [hq1] at HO HW
    rw [Bool.true_and] at HO
    clear hq1
    go_enter Tryd.func4, Tryd.ntmps4
    go_wp2_with fail
    refine (HAW.out _).mono ?_
    rintro e0 w0 ⟨rfl, hx0⟩
    have k0 : Ext w w0 := Ext.trans ((by repeat (first | assumption | exact Ext.refl _ | refine Ext.alloc ?_ _ | refine Ext.drew ?_ | refine Ext.drewN ?_ _ | refine Ext.setCell ?_ (by first | (simp; done) | omega | (simp; omega)) _ | refine Ext.trans (by assumption) ?_))) hx0
    have t0 := hx0.cell (p := ⟨w.heap.size, 0, none⟩) (v := .slice tA tn tc) (by first | (simp; done) | (simp (maxDischargeDepth := 7) [go_sem]; done))
    have v0 := hx0.cell (p := ⟨w.heap.size + 1, 0, none⟩) (v := .slice vA vn vc) (by first | (simp; done) | (simp (maxDischargeDepth := 7) [go_sem]; done))
    have v1 := hx0.cell (p := ⟨w.heap.size + 1, 1, none⟩) (v := .int .u64 vo) (by first | (simp; done) | (simp (maxDischargeDepth := 7) [go_sem]; done))
    have u0 := hx0.cell (p := ⟨w.heap.size + 1 + 1, 0, none⟩) (v := .slice uA un uc) (by first | (simp; done) | (simp (maxDischargeDepth := 7) [go_sem]; done))
    have u1 := hx0.cell (p := ⟨w.heap.size + 1 + 1, 1, none⟩) (v := .int .u64 uo) (by first | (simp; done) | (simp (maxDischargeDepth := 7) [go_sem]; done))
    clear HAW hx0
    go_wp2_with fail
    refine (HO.out _ k0).mono ?_
    rintro e w1 ⟨⟨x, y, rfl, ⟨A1, n1, c1, rfl, h1⟩, ⟨A2, n2, c2, rfl, h2⟩⟩, hx1⟩
    have k1 := k0.trans hx1
    replace t0 := hx1.cell t0
    replace v0 := hx1.cell v0
    replace v1 := hx1.cell v1
    replace u0 := hx1.cell u0
    replace u1 := hx1.cell u1
    clear HO k0 hx1
    go_wp2_with fail
    refine (HW.out _ k1).mono ?_
    rintro e w2 ⟨⟨x, rfl, ⟨A3, n3, c3, rfl, h3⟩⟩, hx2⟩
    have k2 := k1.trans hx2
    replace t0 := hx2.cell t0
    replace v0 := hx2.cell v0
    replace v1 := hx2.cell v1
    replace u0 := hx2.cell u0
    replace u1 := hx2.cell u1
    replace h1 := h1.ext hx2
    replace h2 := h2.ext hx2
    clear HW k1 hx2 h3
    go_wp2_with fail
    refine (HN.out _ k2).mono ?_
    rintro e w3 ⟨⟨x, rfl, ⟨A4, n4, c4, rfl, h4⟩⟩, hx3⟩
    have k3 := k2.trans hx3
    replace h1 := h1.ext hx3
    replace h2 := h2.ext hx3
    clear HN k2 hx3 h4 t0 v0 v1 u0 u1
    obtain rfl : a.length = n1 := h1.len
    obtain rfl : a.length = n2 := hlen.trans h2.len
    have hroom := h1.room
    have H1 := Lib.hid (fun W (kx : Ext w3 W) => h1.ext kx)
    have H2 := Lib.hid (fun W (kx : Ext w3 W) => h2.ext kx)
    clear h1 h2
    have E0 : ((.int .u64 0 : Value) = .int .u64 (Weight.sum 0 (Weight.at' a) : Nat)) ∧ ((.int .u64 0 : Value) = .int .u64 (Weight.sum 0 (Weight.at' b) : Nat)) := ⟨rfl, rfl⟩
    go_wp2
    go_loopw [17, 18, 19] (fun p q i' wr => ∃ j : Nat, j ≤ a.length ∧ i' = .int .i64 j ∧ p = .int .u64 (Weight.sum j (Weight.at' a) : Nat) ∧ q = .int .u64 (Weight.sum j (Weight.at' b) : Nat) ∧ wr = w3) (fun _ _ i' _ => a.length - (intOf i').toNat)
    case atStart => exact ⟨0, Nat.zero_le _, rfl, E0.1, E0.2, rfl⟩
    case round =>
      obtain ⟨j, hj, rfl, rfl, rfl, rfl⟩ := hrel
      by_cases hlt : j < a.length
      · have gj : (j : Int) < a.length := by omega
        have i1 := H1.out _ (Ext.refl _)
        have i2 := H2.out _ (Ext.refl _)
        obtain ⟨b1, o1, rfl, hc1⟩ := i1.cells (by omega)
        obtain ⟨b2, o2, rfl, hc2⟩ := i2.cells (by omega)
        have d1 := hc1 j hlt
        have d2 := hc2 j hlt
        rw [(i1.nat64 j).1] at d1
        rw [(i2.nat64 j).1] at d2
        have s1 := Weight.sum_succ j (Weight.at' a)
        have s2 := Weight.sum_succ j (Weight.at' b)
        have m1 := Delta.sum_up' (show j + 1 ≤ a.length by omega) (Weight.at' a)
        have m2 := Delta.sum_up' (show j + 1 ≤ a.length by omega) (Weight.at' b)
        rw [s1] at m1
        rw [s2] at m2
        have HS1 := Lib.hid s1
        have HS2 := Lib.hid s2
        have w1' : IntKind.u64.wrap (((Weight.sum j (Weight.at' a) : Nat) : Int) + ((Weight.at' a j : Nat) : Int)) = ((Weight.sum j (Weight.at' a) + Weight.at' a j : Nat) : Int) := by rw [IntKind.wrap_u64]; omega
        have w2' : IntKind.u64.wrap (((Weight.sum j (Weight.at' b) : Nat) : Int) + ((Weight.at' b j : Nat) : Int)) = ((Weight.sum j (Weight.at' b) + Weight.at' b j : Nat) : Int) := by rw [IntKind.wrap_u64]; omega
        clear i1 i2 hc1 hc2 s1 s2 m1 m2
        go_wp2
        go_roundw
        case rel =>
          first | exact ⟨j + 1, by omega, by go_num, (by rw [HS1.out]; first | rfl | simp), (by rw [HS2.out]; first | rfl | simp), by first | rfl | trivial⟩ | (refine ⟨_, _, _, ⟨j + 1, by omega, ?_, (by rw [HS1.out]; first | rfl | simp), (by rw [HS2.out]; first | rfl | simp), rfl⟩, rfl, rfl, rfl⟩; go_num)
        case measure => simp [intOf]; omega
      · obtain rfl : j = a.length := by omega
        have gp : ((Weight.sum a.length (Weight.at' a) : Nat) : Int) ≤ (tot : Nat) := by omega
        have gq : ((Weight.sum a.length (Weight.at' b) : Nat) : Int) ≤ (tot : Nat) := by omega
        clear H1 H2 E0
        generalize Weight.sum a.length (Weight.at' a) = sa at *
        generalize Weight.sum a.length (Weight.at' b) = sb at *
        go_wp2_with fail
        refine (HT.out _ k3).mono ?_
        rintro e w4 ⟨rfl, hx4⟩
        go_wp2_with fail
        refine (HT.out _ (k3.trans hx4)).mono ?_
        rintro e w5 ⟨rfl, hx5⟩
        go_wp2
        go_ret
        exact ⟨by simp, k3.trans (hx4.trans hx5)⟩
theorem DeltaBound_reads (os : Os) {H : Type} (enc : TypeId × Value → H) : ∃ places, DataW.whole enc Tryd.prog ((laidWorld os).forCall (fun _ _ => 0) ⟨#[], #[.agg #[.slice none 0 0], .agg #[.slice none 0 0, .int .u64 0], .agg #[.slice none 0 0, .int .u64 0], .slice none 0 0], []⟩).memory Tryd.f4.params.toList Rows.deltaBoundSpec.vars false #[.agg #[.slice none 0 0], .agg #[.slice none 0 0, .int .u64 0], .agg #[.slice none 0 0, .int .u64 0], .slice none 0 0].toList 8 = some ([.agg [.nil], .agg [.nil, .lit (.int .u64 0)], .agg [.nil, .lit (.int .u64 0)], .nil], [], places) :=
  ⟨[], by kernel_rfl⟩
theorem DeltaBound_met (os : Os) : laidMet Tryd.prog Rows.deltaBoundRow.laid ((laidWorld os).forCall (fun _ _ => 0) ⟨#[], #[.agg #[.slice none 0 0], .agg #[.slice none 0 0, .int .u64 0], .agg #[.slice none 0 0, .int .u64 0], .slice none 0 0], []⟩).memory :=
  laidMet_of_run' 8 (by kernel_rfl) (by kernel_rfl)
set_option maxRecDepth 100000 in
theorem DeltaBound_lifted (os : Os) (started : os.Started) (H : Type) (enc : TypeId × Value → H) (F : Stop.Interp) :
    ReturnsInHanded {} Tryd.checked os 4 .any ((OpenSpec.ofChange Rows.deltaBoundSpec).preRow enc Tryd.prog Tryd.f4 Rows.deltaBoundRow.domain false Rows.deltaBoundRow.laid) (((OpenSpec.ofChange Rows.deltaBoundSpec).at F).post enc Tryd.prog Tryd.f4 false true false false) := by
  obtain ⟨places, hx⟩ := DeltaBound_reads os enc
  refine returnsInHanded_of_row (C := Tryd.checked) (s := OpenSpec.ofChange Rows.deltaBoundSpec) own started (by kernel_rfl) Tryd.func4
    (witness_row_at (enc := enc) (C := Tryd.checked) false (laidWorld os) #[.agg #[.slice none 0 0], .agg #[.slice none 0 0, .int .u64 0], .agg #[.slice none 0 0, .int .u64 0], .slice none 0 0] rfl (by kernel_rfl) (by kernel_rfl) (by kernel_rfl)
      (OpenSpec.preRow_of_cond 8 hx (by kernel_rfl) (fun k hk => by cases hk) (by kernel_rfl) (DeltaBound_met os))) ?_
  intro W base args ds gs before hval0 hW _hcnd _hcond hsz0 hL _ _
  have hval : ∀ (j : Nat) t v, Tryd.f4.params[j]? = some t → args[j]? = some v → Value.okWide Tryd.prog W .any base t v := hval0
  have hsz : (DataW.weightsEach Tryd.prog (Tryd.f4.params.toList ++ Rows.deltaBoundSpec.plain.varTypes Tryd.prog) (ds ++ gs)).all (· ≤ reachBytes) = true := hsz0
  have hW' : DataW.Whole enc Tryd.prog Tryd.f4.params.toList Rows.deltaBoundSpec.vars false W args.toList ds gs before := hW
  obtain ⟨p, q, hA0, hV, rfl, hfz, hnd⟩ := hW'
  have hW' : DataW.Whole enc Tryd.prog Tryd.f4.params.toList Rows.deltaBoundSpec.vars false W args.toList ds gs _ := hW
  have hA : DataW.TrodAll enc Tryd.prog W 0 (fun _ => true) true Tryd.f4.params.toList args.toList ds p := hA0
  rw [Tryd.params4] at hA hval hsz
  obtain ⟨v0, vs0, d0, ds0, p0, q0, hargs, rfl, rfl, h0, r0⟩ := trodAll_cons hA
  obtain ⟨v1, vs1, d1, ds1, p1, q1, rfl, rfl, rfl, h1, r1⟩ := trodAll_cons r0
  obtain ⟨v2, vs2, d2, ds2, p2, q2, rfl, rfl, rfl, h2, r2⟩ := trodAll_cons r1
  obtain ⟨v3, vs3, d3, ds3, p3, q3, rfl, rfl, rfl, h3, r3⟩ := trodAll_cons r2
  obtain ⟨rfl, rfl, rfl⟩ := trodAll_nil r3
  obtain rfl : args = #[v0, v1, v2, v3] := by cases args; simp_all
  obtain ⟨rfl, rfl⟩ := trodVars_none hV
  have h0k := h0
  have h1k := h1
  have h2k := h2
  have h3k := h3
  have hlt0 : ∀ x ∈ p0, x.block < W.heap.size := fun x hx => by have := hW'.lt x (by simp [hx]); simpa using this
  have hlt1 : ∀ x ∈ p1, x.block < W.heap.size := fun x hx => by have := hW'.lt x (by simp [hx]); simpa using this
  have hlt2 : ∀ x ∈ p2, x.block < W.heap.size := fun x hx => by have := hW'.lt x (by simp [hx]); simpa using this
  have hlt3 : ∀ x ∈ p3, x.block < W.heap.size := fun x hx => by have := hW'.lt x (by simp [hx]); simpa using this
  obtain ⟨tA, tn, tc, t, rfl, ht⟩ := open_tree (hval 0 24 v0 rfl rfl) h0 hsz (j := 0) rfl rfl
  obtain ⟨wasA, wasn, wasc, was, waso, rfl, hwas, howas⟩ := open_votes (hval 1 28 v1 rfl rfl) h1 hsz (j := 1) rfl rfl
  obtain ⟨isA, isn, isc, is, iso, rfl, his, hois⟩ := open_votes (hval 2 28 v2 rfl rfl) h2 hsz (j := 2) rfl rfl
  obtain ⟨bal, balA, baln, balc, rfl, hbal⟩ := open_Ints Tryd.underlying29 Tryd.underlying26 (by kernel_rfl) (by kernel_rfl) (hval 3 29 v3 rfl rfl) h3 hsz (j := 3) rfl rfl
  clear hA0 hval0
  simp only [List.append_nil] at hW'
  refine (DeltaBound_walk tA tn tc t ht wasA wasn wasc was waso howas hwas isA isn isc is iso hois his balA baln balc bal hbal (w := W) (hT := table hL)).mono fun e W' ⟨he, hg⟩ => ?_
  subst he
  exact ⟨_, rfl, post_law (s := Rows.deltaBoundSpec) (pa := p0 ++ (p1 ++ (p2 ++ (p3 ++ [])))) (pv := []) hW' (fun _ _ _ => (trodAll_cons_mk (shut_bool Tryd.underlying4 _) trodAll_mk0))
    (trodAll_cons_mk (Below.trod laidOut (by kernel_rfl) (of_decide_eq_true (by kernel_rfl)) h0k hg.out hlt0) (trodAll_cons_mk (Below.trod laidOut (by kernel_rfl) (of_decide_eq_true (by kernel_rfl)) h1k hg.out hlt1) (trodAll_cons_mk (Below.trod laidOut (by kernel_rfl) (of_decide_eq_true (by kernel_rfl)) h2k hg.out hlt2) (trodAll_cons_mk (Below.trod laidOut (by kernel_rfl) (of_decide_eq_true (by kernel_rfl)) h3k hg.out hlt3) trodAll_mk0)))) rfl (by simp) hg⟩
theorem DeltaBound_holds : Rows.DeltaBoundSaid :=
  OpenClaim.holds_of_cond 4 Tryd.f4 rfl rfl rfl rfl rfl rfl rfl ⟨rfl, rfl, rfl, rfl, rfl⟩ rfl rfl rfl rfl rfl (by kernel_rfl) Tryd.func4 (by kernel_rfl)
    (of_decide_eq_true (by kernel_rfl)) (by unfold Func.isWrapper; first | (rw [if_pos (by decide +kernel)]; kernel_rfl) | (rw [if_neg (by decide +kernel)]; exact ⟨rfl, rfl⟩))
    (fun os started H enc _ F => by rw [OpenClaim.pre_eq_preRow]; exact DeltaBound_lifted os started H enc F)
theorem DeltaBound_plain (f : FuncId) (fn : Func) (hf : Tryd.pinned.checked.prog.funcNamed "areopagus/areopaguslaw14.DeltaBound" = some f) (hfn : Tryd.pinned.checked.prog.funcs[f]? = some fn) :
    false = Tryd.pinned.checked.prog.looks [] ∧ ∀ (j : Nat) t, fn.params[j]? = some t → Tryd.pinned.checked.prog.wantsStandIn t = false := by
  obtain rfl : f = 4 := Option.some.inj ((show Tryd.prog.funcNamed "areopagus/areopaguslaw14.DeltaBound" = some 4 by kernel_rfl).symm.trans hf) |>.symm
  obtain rfl : fn = Tryd.f4 := (Option.some.inj (Tryd.func4.symm.trans hfn)).symm
  refine ⟨by kernel_rfl, fun j t ht => ?_⟩
  rw [Tryd.params4] at ht
  have hm : t ∈ [24, 28, 28, 29] := by simpa using Array.mem_of_getElem? ht
  have hall : ([24, 28, 28, 29].all fun u => !Tryd.prog.wantsStandIn u) = true := by kernel_rfl
  exact (show Tryd.prog.wantsStandIn t = false by simpa using List.all_eq_true.1 hall t hm)
theorem DeltaBound_card : Rows.DeltaBoundCardSaid :=
  Claim7.holds_tied_plain_at .later [] _ _ _ _ DeltaBound_holds (fun _ h => by cases h) (by kernel_rfl) (fun _ h => by cases h) deltaBound_row_tie rfl ⟨rfl, rfl⟩ (by kernel_rfl) rfl DeltaBound_plain (by kernel_rfl)
#print axioms DeltaBound_card
end Go.Proofs.YtjhhfininnlkfaaDoor
