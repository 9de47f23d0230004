/- The contracts of the document's answer for layer 11. -/
import Derived.Test.YtchfaiogiamfbaaDoorStake
import Derived.Test.YtchfaiogiamfbaaDoorNumRef
namespace Go.Proofs.YtchfaiogiamfbaaDoor
open Go.RowKit Go.WideShapes Go.ChangeShapes
set_option linter.unusedVariables false
set_option linter.unusedSimpArgs false

namespace Stake
/-- Has a mask a bit? -/
def hasV (m : Nat) (v : Int) : Bool := decide (0 ≤ v ∧ v < 64) && m.testBit v.toNat
theorem hasV_nat (m : Nat) {v : Nat} (h : v < 64) : hasV m v = m.testBit v := by unfold hasV; rw [decide_eq_true (by omega)]; simp
end Stake
set_option maxHeartbeats 2000000 in
theorem refBit_any (v : Int) (h1 : -9223372036854775808 ≤ v) (h2 : v ≤ 9223372036854775807) (w : World) :
    Calls Tryd.prog 24 #[.int .i64 v] w fun e w' => e = .returned (.int .u64 (Stake.bitV v : Nat)) ∧ w' = w := by
  by_cases h : v < 0
  · have e : Stake.bitV v = 0 := by unfold Stake.bitV; rw [if_pos (.inl h)]
    rw [e]
    go_enter Tryd.func24, Tryd.ntmps24
    go_wp2
    go_ret
    exact ⟨rfl, rfl⟩
  · by_cases h64 : 63 < v
    · have e : Stake.bitV v = 0 := by unfold Stake.bitV; rw [if_pos (.inr (by omega))]
      rw [e]
      go_enter Tryd.func24, Tryd.ntmps24
      go_wp2
      go_ret
      exact ⟨rfl, rfl⟩
    · obtain ⟨n, rfl⟩ := Int.eq_ofNat_of_zero_le (show 0 ≤ v by omega)
      have e : Stake.bitV n = 2 ^ n := by unfold Stake.bitV; rw [if_neg (by omega)]; simp
      rw [e]
      clear e
      go_enter Tryd.func24, Tryd.ntmps24
      go_wp2
      go_loopw [3, 4] (fun o i wr => ∃ k : Nat, k ≤ n ∧ i = .int .i64 k ∧ o = .int .u64 (2 ^ k : Nat) ∧ wr = w) (fun _ i _ => n - (intOf i).toNat)
      case atStart => exact ⟨0, Nat.zero_le _, rfl, rfl, rfl⟩
      case round =>
        obtain ⟨k, hk, rfl, rfl, rfl⟩ := hrel
        by_cases hlt : k < n
        · have hp : 2 ^ (k + 1) ≤ 2 ^ 63 := Nat.pow_le_pow_right (by omega) (by omega)
          have hp' := Nat.pow_succ 2 k
          have hw : IntKind.u64.wrap (2 * ((2 ^ k : Nat) : Int)) = ((2 ^ (k + 1) : Nat) : Int) := by rw [IntKind.wrap_u64]; omega
          generalize hX : 2 ^ k = X at hw hp'
          generalize hY : 2 ^ (k + 1) = Y at hw hp hp'
          have HY := Lib.hid hY
          clear hY hX hp hp'
          go_wp2
          go_roundw
          case rel => exact ⟨k + 1, by omega, by go_num, by rw [HY.out], by first | rfl | trivial⟩
          case measure => simp [intOf]; omega
        · have e : k = n := by omega
          subst e
          go_wp2
          go_ret
          exact ⟨by first | rfl | simp, rfl⟩
set_option maxHeartbeats 2000000 in
theorem refHas_any (m : Nat) (hm : m < 18446744073709551616) (v : Int) (h1 : -9223372036854775808 ≤ v) (h2 : v ≤ 9223372036854775807) (w : World) :
    Calls Tryd.prog 26 #[.int .u64 m, .int .i64 v] w fun e w' => e = .returned (.bool (Stake.hasV m v)) ∧ w' = w := by
  have HB := Lib.hid (fun W => refBit_any v h1 h2 W)
  by_cases h : 0 ≤ v ∧ v < 64
  · obtain ⟨n, rfl⟩ := Int.eq_ofNat_of_zero_le h.1
    have e : Stake.bitV n = 2 ^ n := by unfold Stake.bitV; rw [if_neg (by omega)]; simp
    rw [e] at HB
    rw [Stake.hasV_nat m (by omega), Nat.testBit_eq_decide_div_mod_eq]
    have hp : 0 < 2 ^ n := Nat.two_pow_pos n
    have hp' : 2 ^ n ≤ 2 ^ 63 := Nat.pow_le_pow_right (by omega) (by omega)
    generalize 2 ^ n = X at *
    clear e
    have hlt : m / X < 18446744073709551616 := Nat.lt_of_le_of_lt (Nat.div_le_self _ _) hm
    obtain ⟨q, hq0⟩ : ∃ q, m / X = q := ⟨_, rfl⟩
    have hw : IntKind.u64.wrap ((m : Int) / (X : Int)) = (q : Int) := by rw [← Int.natCast_ediv, hq0, IntKind.wrap_u64]; omega
    rw [hq0]
    have hq : Hid (((q : Int) % 2 == 1) = decide (q % 2 = 1)) := by
      show ((q : Int) % 2 == 1) = decide (q % 2 = 1)
      rw [Bool.eq_iff_iff]
      simp
      omega
    clear hq0
    clear hlt
    have g1 : (0 : Int) < (X : Int) := by omega
    have g2 : ((X : Int) == 0) = false := by simp; omega
    go_enter Tryd.func26, Tryd.ntmps26
    go_wp2_with fail
    refine (HB.out _).mono ?_
    rintro e w' ⟨rfl, rfl⟩
    go_wp2
    go_ret
    exact ⟨by rw [hq.out]; rfl, rfl⟩
  · have e : Stake.bitV v = 0 := by unfold Stake.bitV; rw [if_pos (by omega)]
    have e2 : Stake.hasV m v = false := by unfold Stake.hasV; rw [decide_eq_false h]; rfl
    rw [e] at HB
    rw [e2]
    clear e e2
    go_enter Tryd.func26, Tryd.ntmps26
    go_wp2_with fail
    refine (HB.out _).mono ?_
    rintro e w' ⟨rfl, rfl⟩
    go_wp2
    go_ret
    exact ⟨rfl, rfl⟩

set_option maxHeartbeats 2000000 in
theorem refSmay_any (A : Option Addr) (n c : Nat) (l : List Int) (w : World) (h : Ints w .u64 A n c l) :
    Calls Tryd.prog 13 #[.slice A n c] w fun e w' => e = .returned (.bool (Stake.mayV l)) ∧ w' = w := by
  have hv := h.view
  have hlen := h.len
  have hroom := h.room
  subst hlen
  clear h
  go_enter Tryd.func13, Tryd.ntmps13
  go_wp2
  go_loopw [3] (fun i wr => ∃ k : Nat, k ≤ l.length ∧ i = .int .i64 k ∧ (∀ j, j < k → nth l j ≤ 1099511627776) ∧ wr = w) (fun i _ => l.length - (intOf i).toNat)
  case atStart => exact ⟨0, Nat.zero_le _, rfl, (fun j hj => absurd hj (Nat.not_lt_zero j)), rfl⟩
  case round =>
    obtain ⟨k, hk, rfl, hno, rfl⟩ := hrel
    have HNO := Lib.hid hno
    clear hno
    by_cases hlt : k < l.length
    · rcases hv with h0 | ⟨b, off, rfl, hc⟩
      · omega
      have dx := hc k hlt
      clear hc
      by_cases ho : 1099511627776 < nth l k
      · have H : Hid (Stake.mayV l = false) := by
          show Stake.mayV l = false
          have : Stake.overL l = true := List.any_eq_true.2 ⟨nth l k, by rw [nth_eq hlt]; exact List.getElem_mem hlt, by simpa using ho⟩
          unfold Stake.mayV
          rw [this]; simp
        go_wp2
        go_ret
        exact ⟨by rw [H.out]; rfl, rfl⟩
      · go_wp2
        go_roundw
        case rel =>
          refine ⟨k + 1, by omega, by go_num, fun j hj => ?_, by first | rfl | trivial⟩
          rcases Nat.lt_or_eq_of_le (Nat.lt_succ_iff.1 hj) with h | rfl
          · exact HNO.out j h
          · omega
        case measure => simp [intOf]; omega
    · have e : k = l.length := by omega
      subst e
      have hov : Stake.overL l = false := List.any_eq_false.2 (fun x hx => by
        obtain ⟨i, hi, rfl⟩ := List.getElem_of_mem hx
        have := HNO.out i hi
        rw [nth_eq hi] at this
        simpa using this)
      by_cases h1 : 1 ≤ l.length
      · by_cases h8 : l.length ≤ 8
        · have H : Hid (Stake.mayV l = true) := Stake.mayV_iff.2 ⟨by omega, h8, hov⟩
          clear hov
          have g1 : (1 : Int) ≤ l.length := by omega
          have g8 : (l.length : Int) ≤ 8 := by omega
          go_wp2
          go_ret
          exact ⟨by rw [H.out]; first | rfl | simp [g1, g8], rfl⟩
        · have H : Hid (Stake.mayV l = false) := by show Stake.mayV l = false; unfold Stake.mayV; simp [h8]
          clear hov
          have g1 : (1 : Int) ≤ l.length := by omega
          have g8 : ¬ (l.length : Int) ≤ 8 := by omega
          go_wp2
          go_ret
          exact ⟨by rw [H.out]; first | rfl | simp [g1, g8], rfl⟩
      · have H : Hid (Stake.mayV l = false) := by show Stake.mayV l = false; unfold Stake.mayV; simp; omega
        clear hov
        have g1 : ¬ (1 : Int) ≤ l.length := by omega
        go_wp2
        go_ret
        exact ⟨by rw [H.out]; first | rfl | simp [g1], rfl⟩

namespace Stake
/-- The first places of a number's bits. -/
def bitsTo (m k : Nat) : List Nat := (List.range k).filter (fun v => m.testBit v)
theorem bitsTo_succ (m k : Nat) : bitsTo m (k + 1) = if m.testBit k then bitsTo m k ++ [k] else bitsTo m k := by
  unfold bitsTo
  rw [List.range_succ, List.filter_append]
  cases h : m.testBit k <;> simp [h]
theorem bitsTo_len (m k : Nat) : (bitsTo m k).length ≤ k := by
  unfold bitsTo
  exact Nat.le_trans (List.length_filter_le _ _) (by simp)
theorem refSum_succ (f : Nat → Nat) (m k : Nat) : ((bitsTo m (k + 1)).map f).sum = ((bitsTo m k).map f).sum + if m.testBit k then f k else 0 := by
  rw [bitsTo_succ]
  cases m.testBit k <;> simp
theorem low_bits (m n : Nat) (h : n ≤ 64) : bitsL (m &&& (2 ^ n - 1)) = bitsTo m n := by
  unfold bitsL bitsTo
  have e : ∀ k, (List.range (n + k)).filter (fun v => (m &&& (2 ^ n - 1)).testBit v) = (List.range n).filter (fun v => m.testBit v) := by
    intro k
    induction k with
    | zero =>
      apply List.filter_congr
      intro v hv
      have := List.mem_range.1 hv
      rw [Nat.testBit_and, Nat.testBit_two_pow_sub_one]
      simp [show v < n by omega]
    | succ k ih =>
      rw [← Nat.add_assoc, List.range_succ, List.filter_append, ih]
      have hf : (m &&& (2 ^ n - 1)).testBit (n + k) = false := by
        rw [Nat.testBit_and, Nat.testBit_two_pow_sub_one]; simp
      rw [List.filter_cons_of_neg (by rw [hf]; simp)]
      simp
  have := e (64 - n)
  rwa [show n + (64 - n) = 64 by omega] at this
end Stake
set_option maxHeartbeats 4000000 in
theorem refWho_any (m : Nat) (hm : m < 18446744073709551616) (w : World) :
    Calls Tryd.prog 12 #[.int .u64 m] w fun e w' => ∃ v, e = .returned v ∧ IsInts w' .i64 v ((Stake.bitsL m).map (fun k : Nat => (k : Int))) ∧ Ext w w' := by
  have HH := Lib.hid (fun (k : Nat) (hk : k < 64) W => refHas_any m hm (k : Int) (by omega) (by omega) W)
  go_enter Tryd.func12, Tryd.ntmps12
  go_wp2
  go_loopw [3, 4, 5] (fun o i _ wr => ∃ k : Nat, k ≤ 64 ∧ i = .int .i64 k ∧ wr.ownsRow w.heap.size 3 1 o (Stake.bitsTo m k).length ((Stake.bitsTo m k).map (fun x : Nat => Value.int .i64 (x : Int))) ∧ Ext w wr) (fun _ i _ _ => 64 - (intOf i).toNat)
  case atStart => exact ⟨0, Nat.zero_le _, rfl, own_new _ _ _ _, Ext.refl _⟩
  case round =>
    obtain ⟨k, hk, rfl, ho, hx⟩ := hrel
    have hz := hx.size
    have hlen := Stake.bitsTo_len m k
    by_cases hlt : k < 64
    · have h1 := HH.out k hlt
      rw [Stake.hasV_nat m hlt] at h1
      have hs := Stake.bitsTo_succ m k
      cases hb : m.testBit k with
      | true =>
        rw [hb] at h1 hs
        rw [if_pos rfl] at hs
        have HS := Lib.hid hs
        have H1 := Lib.hid h1
        clear hs h1
        go_wp2_with fail
        refine (H1.out _).mono ?_
        rintro e w' ⟨rfl, rfl⟩
        go_wp2_with (at_builtin; refine wpList_app rowInts rfl _ _ rfl w.heap.size _ (Stake.bitsTo m k).length ((Stake.bitsTo m k).map (fun x : Nat => Value.int .i64 (x : Int))) rfl ?own (some ⟨_, 0, none⟩) 1 1 [.int .i64 (k : Int)] rfl (src_at rfl (by simp)) ?b1 ?b2 ?_)
        case own => exact ho.alloc _
        case b1 => omega
        case b2 => simp; omega
        intro v' w4 hown4 hg4 _
        have o' : w4.ownsRow w.heap.size 3 1 v' (Stake.bitsTo m (k + 1)).length ((Stake.bitsTo m (k + 1)).map (fun x : Nat => Value.int .i64 (x : Int))) := by
          rw [HS.out, List.map_append, List.length_append]; exact hown4
        have x' : Ext w w4 := (hx.alloc _).grown hg4 (fun j hj => own_from ho j hj)
        clear hown4 hg4 ho
        go_wp2
        go_roundw
        case rel => exact ⟨k + 1, by omega, by go_num, o', x'⟩
        case measure => simp [intOf]; omega
      | false =>
        rw [hb] at h1 hs
        rw [if_neg (by simp)] at hs
        have HS := Lib.hid hs
        have H1 := Lib.hid h1
        clear hs h1
        go_wp2_with fail
        refine (H1.out _).mono ?_
        rintro e w' ⟨rfl, rfl⟩
        go_wp2
        go_roundw
        case rel => exact ⟨k + 1, by omega, by go_num, by rw [HS.out]; exact ho, hx⟩
        case measure => simp [intOf]; omega
    · have e : k = 64 := by omega
      subst e
      go_wp2
      go_ret
      refine ⟨_, rfl, isInts_own (by rw [List.map_map]; exact ho) (by omega) (fun x hx => ?_), hx⟩
      obtain ⟨j, hj, rfl⟩ := List.mem_map.1 hx
      have := Stake.bitsL_lt (m := m) hj
      exact wf_i64 (by omega) (by omega)
set_option maxHeartbeats 4000000 in
theorem refOf_any (A : Option Addr) (n c : Nat) (l : List Int) (m : Nat) (hm : m < 18446744073709551616) (w : World) (h : Ints w .u64 A n c l) :
    Calls Tryd.prog 20 #[.slice A n c, .int .u64 m] w fun e w' => e = .returned (.int .u64 (Stake.ofV l m : Nat)) ∧ Ext w w' := by
  have HM := Lib.hid (fun W (k : Ext w W) => refSmay_any A n c l W (h.ext k))
  have HI := Lib.hid (fun W (k : Ext w W) => h.ext k)
  have HH := Lib.hid (fun (k : Nat) (hk : k < 64) W => refHas_any m hm (k : Int) (by omega) (by omega) W)
  have hlen := h.len
  have hroom := h.room
  clear h
  cases hmay : Stake.mayV l with
  | false =>
    have e : Stake.ofV l m = 0 := by unfold Stake.ofV; rw [hmay]; rfl
    rw [e]
    rw [hmay] at HM
    clear e
    go_enter Tryd.func20, Tryd.ntmps20
    go_wp2_with fail
    refine (HM.out _ ((by repeat (first | assumption | exact Ext.refl _ | refine Ext.alloc ?_ _ | refine Ext.drew ?_ | refine Ext.drewN ?_ _ | refine Ext.setCell ?_ (by first | (simp; done) | omega | (simp; omega)) _ | refine Ext.trans (by assumption) ?_)))).mono ?_
    rintro e w' ⟨rfl, rfl⟩
    by_cases h0 : 0 < n
    · have g : (0 : Int) < n := by omega
      go_wp2
      go_loopw [5, 7, 8] (fun s i _ wr => s = .int .u64 0 ∧ i = .int .i64 0 ∧ wr = w') (fun _ _ _ _ => 0)
      case atStart => exact ⟨rfl, rfl, rfl⟩
      case round =>
        obtain ⟨rfl, rfl, rfl⟩ := hrel
        go_wp2
        go_ret
        exact ⟨rfl, Ext.refl _⟩
    · obtain rfl : n = 0 := by omega
      go_wp2
      go_loopw [5, 7, 8] (fun s i _ wr => s = .int .u64 0 ∧ i = .int .i64 0 ∧ wr = w') (fun _ _ _ _ => 0)
      case atStart => exact ⟨rfl, rfl, rfl⟩
      case round =>
        obtain ⟨rfl, rfl, rfl⟩ := hrel
        go_wp2
        go_ret
        exact ⟨rfl, Ext.refl _⟩
  | true =>
    obtain ⟨h1, h8, hov⟩ := Stake.mayV_iff.1 hmay
    have e : Stake.ofV l m = Stake.sumL l (Stake.bitsTo m l.length) := by unfold Stake.ofV; rw [hmay, if_pos rfl, Stake.low_bits m _ (by omega)]
    rw [e]
    rw [hmay] at HM
    clear e
    go_enter Tryd.func20, Tryd.ntmps20
    go_wp2_with fail
    refine (HM.out _ ((by repeat (first | assumption | exact Ext.refl _ | refine Ext.alloc ?_ _ | refine Ext.drew ?_ | refine Ext.drewN ?_ _ | refine Ext.setCell ?_ (by first | (simp; done) | omega | (simp; omega)) _ | refine Ext.trans (by assumption) ?_)))).mono ?_
    rintro e w' ⟨rfl, rfl⟩
    go_wp2
    go_loopw [5, 7, 8] (fun s i _ wr => ∃ k : Nat, k ≤ l.length ∧ i = .int .i64 k ∧ s = .int .u64 (Stake.sumL l (Stake.bitsTo m k) : Nat) ∧ wr = w') (fun _ i _ _ => l.length - (intOf i).toNat)
    case atStart => exact ⟨0, Nat.zero_le _, rfl, rfl, rfl⟩
    case round =>
      obtain ⟨k, hk, rfl, rfl, rfl⟩ := hrel
      by_cases hlt : k < l.length
      · have g1 : (k : Int) < n := by omega
        have hh := HH.out k (by omega)
        rw [Stake.hasV_nat m (by omega)] at hh
        have hs := Stake.bitsTo_succ m k
        have hle := Stake.sumL_le hov (Stake.bitsTo m k)
        have hbl := Stake.bitsTo_len m k
        have hI := HI.out _ (Ext.refl _)
        have hu := hI.u64 k
        rcases hI.view with h0 | ⟨b, off, rfl, hcs⟩
        · omega
        have dx := hcs k (by omega)
        clear hcs hI
        have hyb : (nth l k).toNat ≤ 1099511627776 := by
          have := Stake.sumL_le hov [k]
          simpa [Stake.sumL] using this
        obtain ⟨y, hy⟩ : ∃ y : Nat, nth l k = (y : Int) := ⟨(nth l k).toNat, by omega⟩
        cases hb : m.testBit k with
        | true =>
          rw [hb] at hh hs
          rw [if_pos rfl] at hs
          have hadd : IntKind.u64.wrap ((Stake.sumL l (Stake.bitsTo m k) : Int) + (y : Int)) = ((Stake.sumL l (Stake.bitsTo m (k + 1)) : Nat) : Int) := by
            rw [IntKind.wrap_u64, hs, Stake.sumL_snoc, hy]; rw [hy] at hyb; simp at hyb ⊢; omega
          rw [hy] at dx
          have H1 := Lib.hid hh
          clear hh hs hle hbl hu hyb hy
          go_wp2_with fail
          refine (H1.out _).mono ?_
          rintro e w5 ⟨rfl, rfl⟩
          go_wp2
          go_roundw
          case rel => exact ⟨k + 1, by omega, by go_num, by first | rfl | simp, by first | rfl | trivial⟩
          case measure => simp [intOf]; omega
        | false =>
          rw [hb] at hh hs
          rw [if_neg (by simp)] at hs
          have HS := Lib.hid hs
          have H1 := Lib.hid hh
          clear hh hs hle hbl hu hyb hy dx
          go_wp2_with fail
          refine (H1.out _).mono ?_
          rintro e w5 ⟨rfl, rfl⟩
          go_wp2
          go_roundw
          case rel => exact ⟨k + 1, by omega, by go_num, by rw [HS.out], by first | rfl | trivial⟩
          case measure => simp [intOf]; omega
      · have e : k = l.length := by omega
        subst e
        subst hlen
        go_wp2
        go_ret
        exact ⟨rfl, Ext.refl _⟩
theorem refTotal_any (A : Option Addr) (n c : Nat) (l : List Int) (w : World) (h : Ints w .u64 A n c l) :
    Calls Tryd.prog 18 #[.slice A n c] w fun e w' => e = .returned (.int .u64 (Stake.ofV l 18446744073709551615 : Nat)) ∧ Ext w w' := by
  have H := Lib.hid (refOf_any A n c l 18446744073709551615 (by omega) w h)
  clear h
  go_enter Tryd.func18, Tryd.ntmps18
  go_wp2_with fail
  refine H.out.mono ?_
  rintro e w' ⟨rfl, hx⟩
  go_wp2
  go_ret
  exact ⟨rfl, hx⟩
theorem refSmost_any (A : Option Addr) (n c : Nat) (l : List Int) (m : Nat) (hm : m < 18446744073709551616) (w : World) (h : Ints w .u64 A n c l) :
    Calls Tryd.prog 14 #[.slice A n c, .int .u64 m] w fun e w' => e = .returned (.bool (Stake.mostV l m)) ∧ Ext w w' := by
  have HM := Lib.hid (fun W (k : Ext w W) => refSmay_any A n c l W (h.ext k))
  have HO := Lib.hid (fun W (k : Ext w W) => refOf_any A n c l m hm W (h.ext k))
  have HTo := Lib.hid (fun W (k : Ext w W) => refTotal_any A n c l W (h.ext k))
  have b1 := Stake.ofV_le l m
  have b2 := Stake.ofV_le l 18446744073709551615
  clear h
  have HN := Lib.hid (fun W => rmost_any (Stake.ofV l m) (Stake.ofV l 18446744073709551615) (by omega) (by omega) W)
  unfold Stake.mostV
  generalize Stake.ofV l m = x at *
  generalize Stake.ofV l 18446744073709551615 = y at *
  generalize Stake.mayV l = z at *
  cases z with
  | false =>
    go_enter Tryd.func14, Tryd.ntmps14
    go_wp2_with fail
    refine (HM.out _ ((by repeat (first | assumption | exact Ext.refl _ | refine Ext.alloc ?_ _ | refine Ext.drew ?_ | refine Ext.drewN ?_ _ | refine Ext.setCell ?_ (by first | (simp; done) | omega | (simp; omega)) _ | refine Ext.trans (by assumption) ?_)))).mono ?_
    rintro e w' ⟨rfl, rfl⟩
    go_wp2_with fail
    refine (HO.out _ ((by repeat (first | assumption | exact Ext.refl _ | refine Ext.alloc ?_ _ | refine Ext.drew ?_ | refine Ext.drewN ?_ _ | refine Ext.setCell ?_ (by first | (simp; done) | omega | (simp; omega)) _ | refine Ext.trans (by assumption) ?_)))).mono ?_
    rintro e w1 ⟨rfl, hx1⟩
    go_wp2_with fail
    refine (HTo.out _ ((by repeat (first | assumption | exact Ext.refl _ | refine Ext.alloc ?_ _ | refine Ext.drew ?_ | refine Ext.drewN ?_ _ | refine Ext.setCell ?_ (by first | (simp; done) | omega | (simp; omega)) _ | refine Ext.trans (by assumption) ?_)))).mono ?_
    rintro e w2 ⟨rfl, hx2⟩
    go_wp2_with fail
    refine (HN.out _).mono ?_
    rintro e w3 ⟨rfl, hx3⟩
    go_wp2
    go_ret
    exact ⟨rfl, (by repeat (first | assumption | exact Ext.refl _ | refine Ext.alloc ?_ _ | refine Ext.drew ?_ | refine Ext.drewN ?_ _ | refine Ext.setCell ?_ (by first | (simp; done) | omega | (simp; omega)) _ | refine Ext.trans (by assumption) ?_))⟩
  | true =>
    go_enter Tryd.func14, Tryd.ntmps14
    go_wp2_with fail
    refine (HM.out _ ((by repeat (first | assumption | exact Ext.refl _ | refine Ext.alloc ?_ _ | refine Ext.drew ?_ | refine Ext.drewN ?_ _ | refine Ext.setCell ?_ (by first | (simp; done) | omega | (simp; omega)) _ | refine Ext.trans (by assumption) ?_)))).mono ?_
    rintro e w' ⟨rfl, rfl⟩
    go_wp2_with fail
    refine (HO.out _ ((by repeat (first | assumption | exact Ext.refl _ | refine Ext.alloc ?_ _ | refine Ext.drew ?_ | refine Ext.drewN ?_ _ | refine Ext.setCell ?_ (by first | (simp; done) | omega | (simp; omega)) _ | refine Ext.trans (by assumption) ?_)))).mono ?_
    rintro e w1 ⟨rfl, hx1⟩
    go_wp2_with fail
    refine (HTo.out _ ((by repeat (first | assumption | exact Ext.refl _ | refine Ext.alloc ?_ _ | refine Ext.drew ?_ | refine Ext.drewN ?_ _ | refine Ext.setCell ?_ (by first | (simp; done) | omega | (simp; omega)) _ | refine Ext.trans (by assumption) ?_)))).mono ?_
    rintro e w2 ⟨rfl, hx2⟩
    go_wp2_with fail
    refine (HN.out _).mono ?_
    rintro e w3 ⟨rfl, hx3⟩
    go_wp2
    go_ret
    exact ⟨rfl, (by repeat (first | assumption | exact Ext.refl _ | refine Ext.alloc ?_ _ | refine Ext.drew ?_ | refine Ext.drewN ?_ _ | refine Ext.setCell ?_ (by first | (simp; done) | omega | (simp; omega)) _ | refine Ext.trans (by assumption) ?_))⟩
theorem refSsome_any (A : Option Addr) (n c : Nat) (l : List Int) (m : Nat) (hm : m < 18446744073709551616) (w : World) (h : Ints w .u64 A n c l) :
    Calls Tryd.prog 15 #[.slice A n c, .int .u64 m] w fun e w' => e = .returned (.bool (Stake.someV l m)) ∧ Ext w w' := by
  have HM := Lib.hid (fun W (k : Ext w W) => refSmay_any A n c l W (h.ext k))
  have HO := Lib.hid (fun W (k : Ext w W) => refOf_any A n c l m hm W (h.ext k))
  have HTo := Lib.hid (fun W (k : Ext w W) => refTotal_any A n c l W (h.ext k))
  have b1 := Stake.ofV_le l m
  have b2 := Stake.ofV_le l 18446744073709551615
  clear h
  have HN := Lib.hid (fun W => rsome_any (Stake.ofV l m) (Stake.ofV l 18446744073709551615) (by omega) (by omega) W)
  unfold Stake.someV
  generalize Stake.ofV l m = x at *
  generalize Stake.ofV l 18446744073709551615 = y at *
  generalize Stake.mayV l = z at *
  cases z with
  | false =>
    go_enter Tryd.func15, Tryd.ntmps15
    go_wp2_with fail
    refine (HM.out _ ((by repeat (first | assumption | exact Ext.refl _ | refine Ext.alloc ?_ _ | refine Ext.drew ?_ | refine Ext.drewN ?_ _ | refine Ext.setCell ?_ (by first | (simp; done) | omega | (simp; omega)) _ | refine Ext.trans (by assumption) ?_)))).mono ?_
    rintro e w' ⟨rfl, rfl⟩
    go_wp2_with fail
    refine (HO.out _ ((by repeat (first | assumption | exact Ext.refl _ | refine Ext.alloc ?_ _ | refine Ext.drew ?_ | refine Ext.drewN ?_ _ | refine Ext.setCell ?_ (by first | (simp; done) | omega | (simp; omega)) _ | refine Ext.trans (by assumption) ?_)))).mono ?_
    rintro e w1 ⟨rfl, hx1⟩
    go_wp2_with fail
    refine (HTo.out _ ((by repeat (first | assumption | exact Ext.refl _ | refine Ext.alloc ?_ _ | refine Ext.drew ?_ | refine Ext.drewN ?_ _ | refine Ext.setCell ?_ (by first | (simp; done) | omega | (simp; omega)) _ | refine Ext.trans (by assumption) ?_)))).mono ?_
    rintro e w2 ⟨rfl, hx2⟩
    go_wp2_with fail
    refine (HN.out _).mono ?_
    rintro e w3 ⟨rfl, hx3⟩
    go_wp2
    go_ret
    exact ⟨rfl, (by repeat (first | assumption | exact Ext.refl _ | refine Ext.alloc ?_ _ | refine Ext.drew ?_ | refine Ext.drewN ?_ _ | refine Ext.setCell ?_ (by first | (simp; done) | omega | (simp; omega)) _ | refine Ext.trans (by assumption) ?_))⟩
  | true =>
    go_enter Tryd.func15, Tryd.ntmps15
    go_wp2_with fail
    refine (HM.out _ ((by repeat (first | assumption | exact Ext.refl _ | refine Ext.alloc ?_ _ | refine Ext.drew ?_ | refine Ext.drewN ?_ _ | refine Ext.setCell ?_ (by first | (simp; done) | omega | (simp; omega)) _ | refine Ext.trans (by assumption) ?_)))).mono ?_
    rintro e w' ⟨rfl, rfl⟩
    go_wp2_with fail
    refine (HO.out _ ((by repeat (first | assumption | exact Ext.refl _ | refine Ext.alloc ?_ _ | refine Ext.drew ?_ | refine Ext.drewN ?_ _ | refine Ext.setCell ?_ (by first | (simp; done) | omega | (simp; omega)) _ | refine Ext.trans (by assumption) ?_)))).mono ?_
    rintro e w1 ⟨rfl, hx1⟩
    go_wp2_with fail
    refine (HTo.out _ ((by repeat (first | assumption | exact Ext.refl _ | refine Ext.alloc ?_ _ | refine Ext.drew ?_ | refine Ext.drewN ?_ _ | refine Ext.setCell ?_ (by first | (simp; done) | omega | (simp; omega)) _ | refine Ext.trans (by assumption) ?_)))).mono ?_
    rintro e w2 ⟨rfl, hx2⟩
    go_wp2_with fail
    refine (HN.out _).mono ?_
    rintro e w3 ⟨rfl, hx3⟩
    go_wp2
    go_ret
    exact ⟨rfl, (by repeat (first | assumption | exact Ext.refl _ | refine Ext.alloc ?_ _ | refine Ext.drew ?_ | refine Ext.drewN ?_ _ | refine Ext.setCell ?_ (by first | (simp; done) | omega | (simp; omega)) _ | refine Ext.trans (by assumption) ?_))⟩
end Go.Proofs.YtchfaiogiamfbaaDoor
