/- DeltaAll: the first block weighs as much as those who voted for a block that is there have; no block more than all have; for every input. -/
import Derived.Test.YtjhhfininnlkfaaDoorDeltaBound
import Derived.Test.YtjhhfininnlkfaaDoorQuietX
namespace Go.Proofs.YtjhhfininnlkfaaDoor
open Go.RowKit Go.WideShapes Go.ChangeShapes Go.Joins Go.Deep Go.ChangeAt Go.Sort
set_option linter.unusedVariables false
set_option linter.unusedSimpArgs false









namespace Delta
open Weight
def maskN (T : List Node) (v : List Lat) (j : Nat) : Nat := sum j (fun k => if hasB T v [] k = true then 2 ^ k else 0)
theorem mask_succ (T : List Node) (v : List Lat) (j : Nat) : maskN T v (j + 1) = maskN T v j + if hasB T v [] j = true then 2 ^ j else 0 := sum_succ _ _
theorem mask_bits (T : List Node) (v : List Lat) : ∀ j, maskN T v j < 2 ^ j ∧ ∀ k, k < j → (maskN T v j).testBit k = hasB T v [] k := by
  intro j
  induction j with
  | zero => exact ⟨by show 0 < 1; omega, fun k hk => absurd hk (Nat.not_lt_zero k)⟩
  | succ j ih =>
    obtain ⟨h1, h2⟩ := ih
    have hp : 2 ^ (j + 1) = 2 ^ j + 2 ^ j := by rw [Nat.pow_succ]; omega
    rw [mask_succ]
    cases h : hasB T v [] j with
    | false =>
      rw [if_neg (by simp), Nat.add_zero]
      refine ⟨by omega, fun k hk => ?_⟩
      by_cases e : k = j
      · subst e
        rw [h]
        exact Nat.testBit_lt_two_pow h1
      · exact h2 k (by omega)
    | true =>
      rw [if_pos rfl]
      refine ⟨by omega, fun k hk => ?_⟩
      by_cases e : k = j
      · subst e
        rw [h, Nat.add_comm, Nat.testBit_two_pow_add_eq, Nat.testBit_lt_two_pow h1]
        rfl
      · rw [Nat.add_comm, Nat.testBit_two_pow_add_gt (show k < j by omega)]
        exact h2 k (by omega)
theorem one_col_eq {T : List Node} {v but : List Lat} {l : List Int} {k : Nat} : sum T.length (fun p => oneF T v but l p k) = if hasB T v but k = true then at' l k else 0 := by
  cases h : hasB T v but k with
  | false => rw [if_neg (by simp)]; exact sum_zero (fun p _ => by unfold oneF; rw [h]; simp)
  | true =>
    have hp : plc T v k < T.length := by
      unfold hasB at h
      simp at h
      have := List.idxOf_lt_length_of_mem h.2
      unfold plc
      unfold Tree.roots at this ⊢
      simpa using this
    rw [if_pos rfl]
    have e : sum T.length (fun p => oneF T v but l p k) = sum T.length (fun p => if p = plc T v k then at' l k else 0) := sum_congr (fun p _ => by
      unfold oneF
      rw [h]
      by_cases e : p = plc T v k
      · rw [if_pos ⟨rfl, e.symm⟩, if_pos e]
      · rw [if_neg (fun q => e q.2.symm), if_neg e])
    rw [e, sum_one hp]
theorem sumB_sum (f : Nat → Nat) (m : Nat) : ∀ n, Stake.sumB f m n = sum n (fun k => if m.testBit k = true then f k else 0) := by
  intro n
  induction n with
  | zero => rfl
  | succ n ih => rw [Stake.sumB_succ, sum_succ, ih]
theorem total_mask {T : List Node} {v : List Lat} {l : List Int} (hm : Stake.mayV l = true) (hl : v.length = l.length) : total T (ownF T v [] l) = Stake.ofV l (maskN T v v.length) := by
  rw [Stake.ofV_eq hm, sumB_sum, ← hl]
  have e : total T (ownF T v [] l) = sum T.length (fun p => sum v.length (fun k => oneF T v [] l p k)) := sum_congr (fun p _ => ownF_sum T v [] l p)
  rw [e, sum_swap]
  refine sum_congr (fun k hk => ?_)
  rw [one_col_eq, (mask_bits T v v.length).2 k hk]
  rfl
/-- What the law says of the weights. -/
theorem all_law {T : List Node} {v : List Lat} {vo : Nat} {l : List Int} (hf : fitV T v vo l = true) : 0 < T.length ∧ at' (listOf T.length (S T (ownF T v [] l))) 0 = Stake.ofV l (maskN T v v.length) ∧ ∀ i, i < T.length → at' (listOf T.length (S T (ownF T v [] l))) i ≤ Stake.ofV l 18446744073709551615 ∧ at' (listOf T.length (S T (ownF T v [] l))) i ≤ at' (listOf T.length (S T (ownF T v [] l))) 0 := by
  obtain ⟨f1, f2, f3, f4⟩ := fitV_iff.1 hf
  have h0 : 0 < T.length := (Tree.mayV_iff.1 f1).1
  have e0 : at' (listOf T.length (S T (ownF T v [] l))) 0 = total T (ownF T v [] l) := by rw [at_listOf h0, S_zero]
  have ht := total_mask (T := T) f3 f4
  refine ⟨h0, e0.trans ht, fun i hi => ?_⟩
  have hle := S_le T (ownF T v [] l) i
  rw [e0, at_listOf hi]
  refine ⟨?_, hle⟩
  rw [ht] at hle
  exact Nat.le_trans hle (Stake.ofV_all l _)
end Delta


set_option maxRecDepth 8000 in
set_option maxHeartbeats 4000000 in
theorem DeltaAll_walk {w : World} (hT : Tab w) (tA : Option Addr) (tn tc : Nat) (t : List Node) (ht : NL w tA tn tc t) (vA : Option Addr) (vn vc : Nat) (v : List Lat) (vo : Nat) (hvo : vo < 18446744073709551616) (hv : VL w vA vn vc v) (LA : Option Addr) (ln lc : Nat) (l : List Int) (hl : Ints w .u64 LA ln lc l) :
    Calls Tryd.prog 3 #[.agg #[.slice tA tn tc], .agg #[.slice vA vn vc, .int .u64 vo], .slice LA ln lc] w fun e' w' => e' = .returned (.bool true) ∧ Ext w w' := by
  have HAW := Lib.hid (fun W => awake_any W)
  have HW := Lib.hid (fun W (k : Ext w W) => dweights_any tA tn tc t vA vn vc vo v hvo LA ln lc l W (ht.ext k) (hv.ext k) (hl.ext k))
  by_cases h1 : 20 < tn
  · have g1 : (20 : Int) < tn := by omega
    generalize Delta.heavyV t v vo l = a at *
    clear ht hv hl hT
    go_enter Tryd.func3, Tryd.ntmps3
    go_wp2_with fail
    refine (HAW.out _).mono ?_
    rintro e0 w0 ⟨rfl, hx0⟩
    have k0 : Ext w w0 := Ext.trans ((by repeat (first | assumption | exact Ext.refl _ | refine Ext.alloc ?_ _ | refine Ext.drew ?_ | refine Ext.drewN ?_ _ | refine Ext.setCell ?_ (by first | (simp; done) | omega | (simp; omega)) _ | refine Ext.trans (by assumption) ?_))) hx0
    have t0 := hx0.cell (p := ⟨w.heap.size, 0, none⟩) (v := .slice tA tn tc) (by first | (simp; done) | (simp (maxDischargeDepth := 7) [go_sem]; done))
    have v0 := hx0.cell (p := ⟨w.heap.size + 1, 0, none⟩) (v := .slice vA vn vc) (by first | (simp; done) | (simp (maxDischargeDepth := 7) [go_sem]; done))
    have v1 := hx0.cell (p := ⟨w.heap.size + 1, 1, none⟩) (v := .int .u64 vo) (by first | (simp; done) | (simp (maxDischargeDepth := 7) [go_sem]; done))
    clear HAW hx0
    go_wp2_with fail
    refine (HW.out _ k0).mono ?_
    rintro e w1 ⟨⟨x, rfl, ⟨A1, n1, c1, rfl, h1⟩⟩, hx1⟩
    have k1 := k0.trans hx1
    replace t0 := hx1.cell t0
    replace v0 := hx1.cell v0
    replace v1 := hx1.cell v1
    clear HW k0 hx1
    go_wp2
    go_ret
    exact ⟨rfl, k1⟩
  have g1 : ¬ (20 : Int) < tn := by omega
  clear h1
  cases hf : Delta.fitV t v vo l with
  | false =>
    rw [Delta.heavy_no hf] at HW
    clear ht hv hl hT hf
    go_enter Tryd.func3, Tryd.ntmps3
    go_wp2_with fail
    refine (HAW.out _).mono ?_
    rintro e0 w0 ⟨rfl, hx0⟩
    have k0 : Ext w w0 := Ext.trans ((by repeat (first | assumption | exact Ext.refl _ | refine Ext.alloc ?_ _ | refine Ext.drew ?_ | refine Ext.drewN ?_ _ | refine Ext.setCell ?_ (by first | (simp; done) | omega | (simp; omega)) _ | refine Ext.trans (by assumption) ?_))) hx0
    have t0 := hx0.cell (p := ⟨w.heap.size, 0, none⟩) (v := .slice tA tn tc) (by first | (simp; done) | (simp (maxDischargeDepth := 7) [go_sem]; done))
    have v0 := hx0.cell (p := ⟨w.heap.size + 1, 0, none⟩) (v := .slice vA vn vc) (by first | (simp; done) | (simp (maxDischargeDepth := 7) [go_sem]; done))
    have v1 := hx0.cell (p := ⟨w.heap.size + 1, 1, none⟩) (v := .int .u64 vo) (by first | (simp; done) | (simp (maxDischargeDepth := 7) [go_sem]; done))
    clear HAW hx0
    go_wp2_with fail
    refine (HW.out _ k0).mono ?_
    rintro e w1 ⟨⟨x, rfl, ⟨A1, n1, c1, rfl, h1⟩⟩, hx1⟩
    have k1 := k0.trans hx1
    replace t0 := hx1.cell t0
    replace v0 := hx1.cell v0
    replace v1 := hx1.cell v1
    clear HW k0 hx1
    go_wp2
    go_ret
    exact ⟨rfl, k1⟩
  | true =>
    obtain ⟨hpos, ha0, hall⟩ := Delta.all_law hf
    obtain ⟨f1, f2, f3, f4⟩ := Delta.fitV_iff.1 hf
    obtain ⟨s1, s2, s3⟩ := Stake.mayV_iff.1 f3
    have htl := ht.len
    have hvl := hv.len
    have hal := Weight.listOf_len t.length (Weight.S t (Delta.ownF t v [] l))
    rw [Delta.heavy_yes hf] at HW
    dsimp only [Option.isSome_some, Option.getD_some] at HW
    generalize Weight.listOf t.length (Weight.S t (Delta.ownF t v [] l)) = a at *
    rw [htl] at hal hpos hall
    rw [hvl] at ha0
    have hv8 : vn ≤ 8 := by omega
    have HALL := Lib.hid hall
    have HMB := Lib.hid (fun j => Delta.mask_bits t v j)
    have HMS := Lib.hid (fun j => Delta.mask_succ t v j)
    have HV := Lib.hid (fun W (k : Ext w W) => hv.ext k)
    have HFD := Lib.hid (fun r (hr : RootOk r) W (k : Ext w W) => find_any tA tn tc t r hr W (ht.ext k))
    have HFM := Lib.hid f1
    have HTO := Lib.hid (fun W (k : Ext w W) => total_any LA ln lc l W (hl.ext k) (hT.ext k))
    have HOF := Lib.hid (fun m (hm : m < 18446744073709551616) W (k : Ext w W) => of_any LA ln lc l m hm W (hl.ext k) (hT.ext k))
    have htot := Stake.ofV_le l 18446744073709551615
    have hmt : Delta.maskN t v vn < 18446744073709551616 := by
      have := (Delta.mask_bits t v vn).1
      have := Nat.pow_le_pow_right (show 0 < 2 by omega) hv8
      omega
    clear ht hv hl hT hf f1 f2 f3 f4 s1 s2 s3 hall
    generalize Stake.ofV l 18446744073709551615 = tot at *
    go_enter Tryd.func3, Tryd.ntmps3
    go_wp2_with fail
    refine (HAW.out _).mono ?_
    rintro e0 w0 ⟨rfl, hx0⟩
    have k0 : Ext w w0 := Ext.trans ((by repeat (first | assumption | exact Ext.refl _ | refine Ext.alloc ?_ _ | refine Ext.drew ?_ | refine Ext.drewN ?_ _ | refine Ext.setCell ?_ (by first | (simp; done) | omega | (simp; omega)) _ | refine Ext.trans (by assumption) ?_))) hx0
    have t0 := hx0.cell (p := ⟨w.heap.size, 0, none⟩) (v := .slice tA tn tc) (by first | (simp; done) | (simp (maxDischargeDepth := 7) [go_sem]; done))
    have v0 := hx0.cell (p := ⟨w.heap.size + 1, 0, none⟩) (v := .slice vA vn vc) (by first | (simp; done) | (simp (maxDischargeDepth := 7) [go_sem]; done))
    have v1 := hx0.cell (p := ⟨w.heap.size + 1, 1, none⟩) (v := .int .u64 vo) (by first | (simp; done) | (simp (maxDischargeDepth := 7) [go_sem]; done))
    clear HAW hx0
    go_wp2_with fail
    refine (HW.out _ k0).mono ?_
    rintro e w1 ⟨⟨x, rfl, ⟨A1, n1, c1, rfl, h1⟩⟩, hx1⟩
    have k1 := k0.trans hx1
    replace t0 := hx1.cell t0
    replace v0 := hx1.cell v0
    replace v1 := hx1.cell v1
    clear HW k0 hx1
    obtain rfl : tn = n1 := hal.symm.trans h1.len
    have H1 := Lib.hid (fun W (kx : Ext w1 W) => h1.ext kx)
    have T0 := Lib.hid (And.intro t0 (And.intro v0 v1))
    clear h1
    go_wp2
    clear t0 v0 v1
    have E0 : (.int .u64 0 : Value) = .int .u64 (Delta.maskN t v 0 : Nat) := rfl
    go_loopw [10, 11] (fun m i' wr => ∃ j : Nat, j ≤ vn ∧ i' = .int .i64 j ∧ m = .int .u64 (Delta.maskN t v j : Nat) ∧ Ext w1 wr) (fun _ i' _ => vn - (intOf i').toNat)
    case atStart => exact ⟨0, Nat.zero_le _, rfl, E0, Ext.refl _⟩
    case round =>
      clear E0
      obtain ⟨j, hj, rfl, rfl, hx⟩ := hrel
      have kr := k1.trans hx
      have t0 := hx.cell T0.out.1
      have v0 := hx.cell T0.out.2.1
      by_cases hlt : j < vn
      · have gj : (j : Int) < vn := by omega
        obtain ⟨b, off, rfl, hr, hok⟩ := (HV.out _ kr).at' hlt
        have q0 := rangeAt_head hr (j := 0) (v := .bool (v.getD j Lat.none).has) rfl
        rw [Nat.add_zero] at q0
        have hms := HMS.out j
        have hhas : Delta.hasB t v [] j = ((v.getD j Lat.none).has && decide ((v.getD j Lat.none).root ∈ Tree.roots t)) := by unfold Delta.hasB; rw [Delta.newB_nil]
        rw [hhas] at hms
        have hmb := (HMB.out (j + 1)).1
        have hpw := Nat.pow_le_pow_right (show 0 < 2 by omega) (show j + 1 ≤ 8 by omega)
        have HF := Lib.hid (fun W (k : Ext w W) => HFD.out _ hok.1 W k)
        have hi32 : (Tryd.prog.info? 34).map (·.size) = some (rootC (v.getD j Lat.none).root).length := by rw [rootC_len hok.1]; kernel_rfl
        have rxr := rangeAt_part hr (k := 1) rfl
        clear hhas hok hr
        generalize v.getD j Lat.none = x at *
        cases hh : x.has with
        | false =>
          rw [hh] at hms q0
          rw [Bool.false_and, if_neg (by simp), Nat.add_zero] at hms
          have HMQ := Lib.hid hms
          clear hh hms hmb hpw
          go_wp2
          have z0 := fun p => cell_in t0 p
          have z1 := fun p => cell_in v0 p
          have z2 := fun p => cell_in q0 p
          refine wp_region_quiet_below (by kernel_rfl) (by kernel_rfl) ?_
          repeat (first | go_big_quiet_skip | (go_big_quiet_want; first | ((fail); (try simp only [Act.put, List.setIfInBounds_toArray, List.set_cons_zero, List.set_cons_succ]); go_big_quiet_on) | (go_big_quiet_op; first | go_big_quiet_on | go_big_quiet_call (fail))))
          refine wpQuiet_nil ?_
          intro _ hw'
          obtain ⟨pq, hw''⟩ := hw'
          subst hw''
          have kq := hx.trans (ext_regrown wr pq)
          clear z0 z1 z2
          go_wp2
          go_roundw
          case rel =>
            first | exact ⟨j + 1, by omega, by go_num, (by rw [HMQ.out]; first | rfl | simp), kq⟩ | (refine ⟨_, _, ⟨j + 1, by omega, ?_, (by rw [HMQ.out]; first | rfl | simp), kq⟩, rfl, rfl⟩; go_num)
          case measure => simp [intOf]; omega
        | true =>
          rw [hh] at hms q0
          rw [Bool.true_and] at hms
          by_cases hin : x.root ∈ Tree.roots t
          · rw [decide_eq_true hin, if_pos rfl] at hms
            have HF := Lib.hid (fun W (k : Ext w W) => (by have t := HF.out W k; rw [findV_in HFM.out hin] at t; exact t : Calls Tryd.prog 7 #[.agg #[.slice tA tn tc], .agg (rootC x.root).toArray] W fun e w' => e = .returned (.int .i64 ((Tree.roots t).idxOf x.root : Nat)) ∧ Ext W w'))
            have gz : (0 : Int) ≤ ((Tree.roots t).idxOf x.root : Nat) := by omega
            have gz' : decide ((0 : Int) ≤ ((Tree.roots t).idxOf x.root : Nat)) = true := decide_eq_true gz
            generalize (Tree.roots t).idxOf x.root = p at *
            have HB := Lib.hid (fun W => (by have t := bit_any (j : Int) (by omega) (by omega) W; rw [Stake.bitV_nat (by omega)] at t; exact t : Calls Tryd.prog 8 #[.int .i64 j] W fun e w' => e = .returned (.int .u64 (2 ^ j : Nat)) ∧ w' = W))
            have hadd : IntKind.u64.wrap (((Delta.maskN t v j : Nat) : Int) + ((2 ^ j : Nat) : Int)) = ((Delta.maskN t v j + 2 ^ j : Nat) : Int) := by rw [IntKind.wrap_u64]; omega
            have HMQ := Lib.hid hms
            clear hh hms hmb hpw hin
            generalize 2 ^ j = P2 at *
            go_wp2
            have z0 := fun p => cell_in t0 p
            have z1 := fun p => cell_in v0 p
            have z2 := fun p => cell_in q0 p
            refine wp_region_quiet_below (by kernel_rfl) (by kernel_rfl) ?_
            repeat (first | go_big_quiet_skip | (go_big_quiet_want; first | ((refine quiet_load_mid 34 _ rfl _ _ rfl (rootC x.root) _ (fun W ⟨p, hp⟩ => hp ▸ rangeAt_ext rxr (ext_regrown _ p)) Tryd.underlying34 rfl hi32 ?_); (try simp only [Act.put, List.setIfInBounds_toArray, List.set_cons_zero, List.set_cons_succ]); go_big_quiet_on) | (go_big_quiet_op; first | go_big_quiet_on | go_big_quiet_call ((go_at_call 7; exact regrown_ext (HF.out _ (Ext.trans kr (ext_regrown _ _))))))))
            refine wpQuiet_nil ?_
            intro _ hw'
            obtain ⟨pq, hw''⟩ := hw'
            subst hw''
            have kq := hx.trans (ext_regrown wr pq)
            clear z0 z1 z2 q0 rxr
            generalize hw5 : Go.Sort.grow (redrawn wr pq.d) pq.os = w5 at *
            clear hw5
            go_wp2_with fail
            refine (HB.out _).mono ?_
            rintro e w6 ⟨rfl, rfl⟩
            go_wp2
            go_roundw
            case rel =>
              first | exact ⟨j + 1, by omega, by go_num, (by rw [HMQ.out]; first | rfl | simp), kq⟩ | (refine ⟨_, _, ⟨j + 1, by omega, ?_, (by rw [HMQ.out]; first | rfl | simp), kq⟩, rfl, rfl⟩; go_num)
            case measure => simp [intOf]; omega
          · rw [decide_eq_false hin, if_neg (by simp), Nat.add_zero] at hms
            have HF := Lib.hid (fun W (k : Ext w W) => (by have t := HF.out W k; rw [findV_out hin] at t; exact t : Calls Tryd.prog 7 #[.agg #[.slice tA tn tc], .agg (rootC x.root).toArray] W fun e w' => e = .returned (.int .i64 (-1)) ∧ Ext W w'))
            have HMQ := Lib.hid hms
            clear hh hms hmb hpw hin
            go_wp2
            have z0 := fun p => cell_in t0 p
            have z1 := fun p => cell_in v0 p
            have z2 := fun p => cell_in q0 p
            refine wp_region_quiet_below (by kernel_rfl) (by kernel_rfl) ?_
            repeat (first | go_big_quiet_skip | (go_big_quiet_want; first | ((refine quiet_load_mid 34 _ rfl _ _ rfl (rootC x.root) _ (fun W ⟨p, hp⟩ => hp ▸ rangeAt_ext rxr (ext_regrown _ p)) Tryd.underlying34 rfl hi32 ?_); (try simp only [Act.put, List.setIfInBounds_toArray, List.set_cons_zero, List.set_cons_succ]); go_big_quiet_on) | (go_big_quiet_op; first | go_big_quiet_on | go_big_quiet_call ((go_at_call 7; exact regrown_ext (HF.out _ (Ext.trans kr (ext_regrown _ _))))))))
            refine wpQuiet_nil ?_
            intro _ hw'
            obtain ⟨pq, hw''⟩ := hw'
            subst hw''
            have kq := hx.trans (ext_regrown wr pq)
            clear z0 z1 z2
            go_wp2
            go_roundw
            case rel =>
              first | exact ⟨j + 1, by omega, by go_num, (by rw [HMQ.out]; first | rfl | simp), kq⟩ | (refine ⟨_, _, ⟨j + 1, by omega, ?_, (by rw [HMQ.out]; first | rfl | simp), kq⟩, rfl, rfl⟩; go_num)
            case measure => simp [intOf]; omega
      · obtain rfl : j = vn := by omega
        obtain ⟨w5, e5⟩ : ∃ w5, w5 = wr := ⟨_, rfl⟩
        subst e5
        clear HMB HMS HV HFD HFM T0
        generalize Delta.maskN t v j = mk at *
        have T5 := Lib.hid t0
        have HO := Lib.hid (fun W (kx : Ext w W) => HOF.out mk hmt W kx)
        rw [← ha0] at HO
        clear HOF
        go_wp2
        clear t0 v0
        go_loopw [12] (fun i' wr => ∃ i : Nat, i ≤ tn ∧ i' = .int .i64 i ∧ Ext w5 wr) (fun i' _ => tn - (intOf i').toNat)
        case atStart => exact ⟨0, Nat.zero_le _, rfl, Ext.refl _⟩
        case round =>
          obtain ⟨i, hi, rfl, hx2⟩ := hrel
          have kr2 := kr.trans hx2
          have i1 := H1.out _ (hx.trans hx2)
          obtain ⟨b1, o1, rfl, hc1⟩ := i1.cells hpos
          have d0 := hc1 0 hpos
          rw [(i1.nat64 0).1, Nat.add_zero] at d0
          by_cases hlt2 : i < tn
          · have d1 := hc1 i hlt2
            rw [(i1.nat64 i).1] at d1
            obtain ⟨l1, l2⟩ := HALL.out i hlt2
            have g2 : (i : Int) < tn := by omega
            clear HALL hc1 i1 ha0 HO
            generalize Weight.at' a i = y at *
            generalize Weight.at' a 0 = y0 at *
            have g3 : decide ((tot : Int) < (y : Int)) = false := decide_eq_false (by omega)
            have g4 : decide ((y0 : Int) < (y : Int)) = false := decide_eq_false (by omega)
            have g3' : decide (tot < y) = false := decide_eq_false (by omega)
            have g4' : decide (y0 < y) = false := decide_eq_false (by omega)
            have g5 : (0 : Int) < tn := by omega
            go_wp2
            have z1 := fun p => cell_in d0 p
            have z2 := fun p => cell_in d1 p
            refine wp_region_quiet_below (by kernel_rfl) (by kernel_rfl) ?_
            repeat (first | go_big_quiet_skip | (go_big_quiet_want; first | ((fail); (try simp only [Act.put, List.setIfInBounds_toArray, List.set_cons_zero, List.set_cons_succ]); go_big_quiet_on) | (go_big_quiet_op; first | go_big_quiet_on | go_big_quiet_call ((go_at_call 9; exact regrown_ext (HTO.out _ (Ext.trans kr2 (ext_regrown _ _))))))))
            refine wpQuiet_nil ?_
            intro _ hw'
            obtain ⟨pq, hw''⟩ := hw'
            subst hw''
            have kq := hx2.trans (ext_regrown wr pq)
            clear z1 z2
            go_wp2
            go_roundw
            case rel =>
              first | exact ⟨i + 1, by omega, by go_num, kq⟩ | (refine ⟨_, ⟨i + 1, by omega, ?_, kq⟩, rfl⟩; go_num)
            case measure => simp [intOf]; omega
          · obtain rfl : i = tn := by omega
            have t0 := hx2.cell T5.out
            have g5 : (0 : Int) < i := by omega
            clear HALL hc1 i1 ha0 HTO
            generalize Weight.at' a 0 = y0 at *
            go_wp2
            have z1 := fun p => cell_in d0 p
            have z2 := fun p => cell_in t0 p
            refine wp_region_quiet_below (by kernel_rfl) (by kernel_rfl) ?_
            repeat (first | go_big_quiet_skip | (go_big_quiet_want; first | ((fail); (try simp only [Act.put, List.setIfInBounds_toArray, List.set_cons_zero, List.set_cons_succ]); go_big_quiet_on) | (go_big_quiet_op; first | go_big_quiet_on | go_big_quiet_call ((go_at_call 10; exact regrown_ext (HO.out _ (Ext.trans kr2 (ext_regrown _ _))))))))
            refine wpQuiet_nil ?_
            intro _ hw'
            obtain ⟨pq, hw''⟩ := hw'
            subst hw''
            clear z1 z2
            go_wp2
            go_ret
            exact ⟨rfl, kr2.trans (ext_regrown _ _)⟩
theorem DeltaAll_reads (os : Os) {H : Type} (enc : TypeId × Value → H) : ∃ places, DataW.whole enc Tryd.prog ((laidWorld os).forCall (fun _ _ => 0) ⟨#[], #[.agg #[.slice none 0 0], .agg #[.slice none 0 0, .int .u64 0], .slice none 0 0], []⟩).memory Tryd.f3.params.toList Rows.deltaAllSpec.vars false #[.agg #[.slice none 0 0], .agg #[.slice none 0 0, .int .u64 0], .slice none 0 0].toList 8 = some ([.agg [.nil], .agg [.nil, .lit (.int .u64 0)], .nil], [], places) :=
  ⟨[], by kernel_rfl⟩
theorem DeltaAll_met (os : Os) : laidMet Tryd.prog Rows.deltaAllRow.laid ((laidWorld os).forCall (fun _ _ => 0) ⟨#[], #[.agg #[.slice none 0 0], .agg #[.slice none 0 0, .int .u64 0], .slice none 0 0], []⟩).memory :=
  laidMet_of_run' 8 (by kernel_rfl) (by kernel_rfl)
set_option maxRecDepth 100000 in
theorem DeltaAll_lifted (os : Os) (started : os.Started) (H : Type) (enc : TypeId × Value → H) (F : Stop.Interp) :
    ReturnsInHanded {} Tryd.checked os 3 .any ((OpenSpec.ofChange Rows.deltaAllSpec).preRow enc Tryd.prog Tryd.f3 Rows.deltaAllRow.domain false Rows.deltaAllRow.laid) (((OpenSpec.ofChange Rows.deltaAllSpec).at F).post enc Tryd.prog Tryd.f3 false true false false) := by
  obtain ⟨places, hx⟩ := DeltaAll_reads os enc
  refine returnsInHanded_of_row (C := Tryd.checked) (s := OpenSpec.ofChange Rows.deltaAllSpec) own started (by kernel_rfl) Tryd.func3
    (witness_row_at (enc := enc) (C := Tryd.checked) false (laidWorld os) #[.agg #[.slice none 0 0], .agg #[.slice none 0 0, .int .u64 0], .slice none 0 0] rfl (by kernel_rfl) (by kernel_rfl) (by kernel_rfl)
      (OpenSpec.preRow_of_cond 8 hx (by kernel_rfl) (fun k hk => by cases hk) (by kernel_rfl) (DeltaAll_met os))) ?_
  intro W base args ds gs before hval0 hW _hcnd _hcond hsz0 hL _ _
  have hval : ∀ (j : Nat) t v, Tryd.f3.params[j]? = some t → args[j]? = some v → Value.okWide Tryd.prog W .any base t v := hval0
  have hsz : (DataW.weightsEach Tryd.prog (Tryd.f3.params.toList ++ Rows.deltaAllSpec.plain.varTypes Tryd.prog) (ds ++ gs)).all (· ≤ reachBytes) = true := hsz0
  have hW' : DataW.Whole enc Tryd.prog Tryd.f3.params.toList Rows.deltaAllSpec.vars false W args.toList ds gs before := hW
  obtain ⟨p, q, hA0, hV, rfl, hfz, hnd⟩ := hW'
  have hW' : DataW.Whole enc Tryd.prog Tryd.f3.params.toList Rows.deltaAllSpec.vars false W args.toList ds gs _ := hW
  have hA : DataW.TrodAll enc Tryd.prog W 0 (fun _ => true) true Tryd.f3.params.toList args.toList ds p := hA0
  rw [Tryd.params3] at hA hval hsz
  obtain ⟨v0, vs0, d0, ds0, p0, q0, hargs, rfl, rfl, h0, r0⟩ := trodAll_cons hA
  obtain ⟨v1, vs1, d1, ds1, p1, q1, rfl, rfl, rfl, h1, r1⟩ := trodAll_cons r0
  obtain ⟨v2, vs2, d2, ds2, p2, q2, rfl, rfl, rfl, h2, r2⟩ := trodAll_cons r1
  obtain ⟨rfl, rfl, rfl⟩ := trodAll_nil r2
  obtain rfl : args = #[v0, v1, v2] := by cases args; simp_all
  obtain ⟨rfl, rfl⟩ := trodVars_none hV
  have h0k := h0
  have h1k := h1
  have h2k := h2
  have hlt0 : ∀ x ∈ p0, x.block < W.heap.size := fun x hx => by have := hW'.lt x (by simp [hx]); simpa using this
  have hlt1 : ∀ x ∈ p1, x.block < W.heap.size := fun x hx => by have := hW'.lt x (by simp [hx]); simpa using this
  have hlt2 : ∀ x ∈ p2, x.block < W.heap.size := fun x hx => by have := hW'.lt x (by simp [hx]); simpa using this
  obtain ⟨tA, tn, tc, t, rfl, ht⟩ := open_tree (hval 0 24 v0 rfl rfl) h0 hsz (j := 0) rfl rfl
  obtain ⟨vA, vn, vc, v, vo, rfl, hv, hov⟩ := open_votes (hval 1 28 v1 rfl rfl) h1 hsz (j := 1) rfl rfl
  obtain ⟨bal, balA, baln, balc, rfl, hbal⟩ := open_Ints Tryd.underlying29 Tryd.underlying26 (by kernel_rfl) (by kernel_rfl) (hval 2 29 v2 rfl rfl) h2 hsz (j := 2) rfl rfl
  clear hA0 hval0
  simp only [List.append_nil] at hW'
  refine (DeltaAll_walk tA tn tc t ht vA vn vc v vo hov hv balA baln balc bal hbal (w := W) (hT := table hL)).mono fun e W' ⟨he, hg⟩ => ?_
  subst he
  exact ⟨_, rfl, post_law (s := Rows.deltaAllSpec) (pa := p0 ++ (p1 ++ (p2 ++ []))) (pv := []) hW' (fun _ _ _ => (trodAll_cons_mk (shut_bool Tryd.underlying4 _) trodAll_mk0))
    (trodAll_cons_mk (Below.trod laidOut (by kernel_rfl) (of_decide_eq_true (by kernel_rfl)) h0k hg.out hlt0) (trodAll_cons_mk (Below.trod laidOut (by kernel_rfl) (of_decide_eq_true (by kernel_rfl)) h1k hg.out hlt1) (trodAll_cons_mk (Below.trod laidOut (by kernel_rfl) (of_decide_eq_true (by kernel_rfl)) h2k hg.out hlt2) trodAll_mk0))) rfl (by simp) hg⟩
theorem DeltaAll_holds : Rows.DeltaAllSaid :=
  OpenClaim.holds_of_cond 3 Tryd.f3 rfl rfl rfl rfl rfl rfl rfl ⟨rfl, rfl, rfl, rfl, rfl⟩ rfl rfl rfl rfl rfl (by kernel_rfl) Tryd.func3 (by kernel_rfl)
    (of_decide_eq_true (by kernel_rfl)) (by unfold Func.isWrapper; first | (rw [if_pos (by decide +kernel)]; kernel_rfl) | (rw [if_neg (by decide +kernel)]; exact ⟨rfl, rfl⟩))
    (fun os started H enc _ F => by rw [OpenClaim.pre_eq_preRow]; exact DeltaAll_lifted os started H enc F)
theorem DeltaAll_plain (f : FuncId) (fn : Func) (hf : Tryd.pinned.checked.prog.funcNamed "areopagus/areopaguslaw14.DeltaAll" = some f) (hfn : Tryd.pinned.checked.prog.funcs[f]? = some fn) :
    false = Tryd.pinned.checked.prog.looks [] ∧ ∀ (j : Nat) t, fn.params[j]? = some t → Tryd.pinned.checked.prog.wantsStandIn t = false := by
  obtain rfl : f = 3 := Option.some.inj ((show Tryd.prog.funcNamed "areopagus/areopaguslaw14.DeltaAll" = some 3 by kernel_rfl).symm.trans hf) |>.symm
  obtain rfl : fn = Tryd.f3 := (Option.some.inj (Tryd.func3.symm.trans hfn)).symm
  refine ⟨by kernel_rfl, fun j t ht => ?_⟩
  rw [Tryd.params3] at ht
  have hm : t ∈ [24, 28, 29] := by simpa using Array.mem_of_getElem? ht
  have hall : ([24, 28, 29].all fun u => !Tryd.prog.wantsStandIn u) = true := by kernel_rfl
  exact (show Tryd.prog.wantsStandIn t = false by simpa using List.all_eq_true.1 hall t hm)
theorem DeltaAll_card : Rows.DeltaAllCardSaid :=
  Claim7.holds_tied_plain_at .later [] _ _ _ _ DeltaAll_holds (fun _ h => by cases h) (by kernel_rfl) (fun _ h => by cases h) deltaAll_row_tie rfl ⟨rfl, rfl⟩ (by kernel_rfl) rfl DeltaAll_plain (by kernel_rfl)
#print axioms DeltaAll_card
end Go.Proofs.YtjhhfininnlkfaaDoor
