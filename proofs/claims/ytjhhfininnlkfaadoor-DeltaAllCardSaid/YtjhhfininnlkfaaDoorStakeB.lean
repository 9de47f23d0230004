/- XStake beside XBit (which has bitV and bit_any). -/
/- The contracts of layer 11 (stake). -/
import Derived.Test.YtjhhfininnlkfaaDoorStakeBits
import Derived.Test.YtjhhfininnlkfaaDoorBit
import Derived.Test.YtjhhfininnlkfaaDoorNum
import Derived.Shelf.Spec.TrailingZeros
namespace Go.Proofs.YtjhhfininnlkfaaDoor
open Go.RowKit Go.WideShapes Go.ChangeShapes
set_option linter.unusedVariables false
set_option linter.unusedSimpArgs false
attribute [local go_sem] Oper.semAt_some

/-- The library's table lies in its variable. -/
def Tab (w : World) : Prop := ∀ j, j < 64 → w.cell? ⟨0, j, none⟩ = some (.int .u8 (Lib.deBruijn64tab.getD j 0))
theorem Tab.ext {w w' : World} (h : Tab w) (hx : Ext w w') : Tab w' := fun j hj => hx.cell (h j hj)
theorem tz_walk (x k idx : Nat) (w : World) (hx0 : ((x : Int) == 0) = false)
    (key : IntKind.u64.wrap (bits BinOp.and IntKind.u64 (x : Int) (IntKind.u64.wrap (-(x : Int))) * 285870213051353865) / 288230376151711744 = (idx : Int))
    (hi : idx < 64) (hk : k < 64) (hcell : w.cell? ⟨0, idx, none⟩ = some (.int .u8 k)) :
    Calls Tryd.prog 33 #[.int .u64 x] w fun e w' => e = .returned (.int .i64 k) ∧ w' = w := by
  go_enter Tryd.func33, Tryd.ntmps33
  go_wp2_with (simp only [key])
  go_ret
  exact ⟨rfl, rfl⟩
theorem tz_any (x : Nat) (hx0 : x ≠ 0) (hx : x < 18446744073709551616) (w : World) (hT : Tab w) :
    Calls Tryd.prog 33 #[.int .u64 x] w fun e w' => e = .returned (.int .i64 (Lib.ctz 64 x : Nat)) ∧ w' = w := by
  obtain ⟨hlow, hk⟩ := Lib.lowest_bit 64 x hx0 hx
  obtain ⟨hi, htab⟩ := Lib.deBruijn64_at _ hk
  have hcell := hT _ hi
  rw [htab] at hcell
  exact tz_walk x _ _ w (by simp; omega) (tz64_key x _ hx hx0 hlow) hi hk hcell
theorem each_any (m : Nat) (w : World) :
    Calls Tryd.prog 21 #[.int .u64 m] w fun e w' => e = .returned (.func (.func 32) #[] #[.pointer (some ⟨w.heap.size, 0, none⟩)]) ∧ w' = w.alloc (.cells #[.int .u64 m] 26) := by
  go_enter Tryd.func21, Tryd.ntmps21
  go_wp2
  go_ret
  exact ⟨rfl, rfl⟩
def leftAt (B : Nat) (w : World) : Nat := match w.cell? ⟨B, 0, none⟩ with
  | some (.int _ x) => x.toNat
  | _ => 0
theorem leftAt_eq {B : Nat} {w : World} {k : IntKind} {r : Nat} (h : w.cell? ⟨B, 0, none⟩ = some (.int k r)) : leftAt B w = r := by unfold leftAt; rw [h]; simp
set_option maxHeartbeats 2000000 in
theorem each1_in (m : Nat) (hm : m < 18446744073709551616) (B : Nat) (w : World) (hc : w.cell? ⟨B, 0, none⟩ = some (.int .u64 m)) (hf : w.frozen? ⟨B, 0, none⟩ = false) :
    CapIter Fence.wide 8 Tryd.prog 32 #[.pointer (some ⟨B, 0, none⟩)] B (Stake.bitsL m) Tab w := by
  intro l J W hW hJT hset hY h0
  have c0 : W.cell? ⟨B, 0, none⟩ = some (.int .u64 m) := (World.cell?_of_block hW).trans hc
  have f0 : W.frozen? ⟨B, 0, none⟩ = false := (World.frozen?_of_block (a := ⟨B, 0, none⟩) hW).trans hf
  refine callsIn_of_wp Tryd.func32 rfl trivial ?_ rfl
  simp only [Tryd.ntmps32, List.size_toArray, List.length_cons, List.length_nil, Nat.reduceAdd, Nat.reduceSub, Array.replicate_succ, Array.replicate_zero, List.push_toArray, List.append_toArray, List.nil_append, List.cons_append]
  have HY := Lib.hid hY
  have HJ := Lib.hid hJT
  have HS := Lib.hid hset
  clear hY hJT hset hW hc hf
  gi_wp2
  gi_loopw [] (fun wr => ∃ (pre : List Nat) (r : Nat), Stake.bitsL m = pre ++ Stake.bitsL r ∧ r < 18446744073709551616 ∧ wr.cell? ⟨B, 0, none⟩ = some (.int .u64 r) ∧ wr.frozen? ⟨B, 0, none⟩ = false ∧ J pre wr) (fun wr => leftAt B wr)
  case atStart => exact ⟨[], m, rfl, hm, c0, f0, h0⟩
  case round =>
    obtain ⟨pre, r, hr, hlt, hc, hf, hj⟩ := hrel
    clear c0 f0 h0
    by_cases hr0 : r = 0
    · subst hr0
      gi_wp2
      refine ⟨trivial, ?_⟩
      gi_wp2
      refine ⟨fun _ h => (by cases h), ?_⟩
      gi_wp2
      go_end0
      have e : pre = Stake.bitsL m := by rw [hr, Stake.bitsL_zero, List.append_nil]
      exact ⟨⟨_, rfl⟩, e ▸ hj⟩
    · have hz : ((r : Int) == 0) = false := by simp; omega
      have hs : IntKind.u64.wrap ((r : Int) - 1) = ((r - 1 : Nat) : Int) := by rw [IntKind.wrap_u64]; omega
      have ha : bits .and .u64 (r : Int) ((r - 1 : Nat) : Int) = ((r &&& (r - 1) : Nat) : Int) := bits_and_u64_nat r (r - 1) hlt (by omega)
      have hcons := Stake.bitsL_cons r hr0 hlt
      obtain ⟨fn, tmps, assign, body, hy, hR⟩ := HY.out pre (Lib.ctz 64 r) wr hj ⟨Stake.bitsL (r &&& (r - 1)), by rw [hr, hcons]; simp⟩
      have HT := HJ.out _ _ hj
      gi_wp2_with (refine ⟨trivial, ?_⟩; gi_at_call 33; refine (callsIn_wide.2 (tz_any r hr0 hlt _ HT)).mono ?_; rintro e w' ⟨rfl, rfl⟩)
      refine hR.mono ?_
      rintro e W' ⟨rfl, hj', hB'⟩
      have hc' : W'.cell? ⟨B, 0, none⟩ = some (.int .u64 r) := (World.cell?_of_block hB').trans hc
      have hf' : W'.frozen? ⟨B, 0, none⟩ = false := (World.frozen?_of_block (a := ⟨B, 0, none⟩) hB').trans hf
      gi_wp2
      go_roundw
      case rel =>
        refine ⟨pre ++ [Lib.ctz 64 r], r &&& (r - 1), by rw [hr, hcons]; simp, Nat.lt_of_le_of_lt Nat.and_le_left hlt, ?_, ?_, HS.out _ _ _ hj'⟩
        · exact World.cell?_setCell_same' _ _ _ (by rw [hc']; rfl)
        · rw [World.frozen?_setCell]; exact hf'
      case measure =>
        rw [leftAt_eq hc, leftAt_eq (World.cell?_setCell_same' _ _ _ (by rw [hc']; rfl))]
        exact Stake.and_pred_lt r hr0

namespace Stake
def overL (l : List Int) : Bool := l.any (fun x => decide (1099511627776 < x))
def mayV (l : List Int) : Bool := decide (0 < l.length) && decide (l.length ≤ 8) && !overL l
/-- What those at these places have. -/
def sumL (l : List Int) (ks : List Nat) : Nat := (ks.map (fun k => (nth l k).toNat)).sum
def ofV (l : List Int) (m : Nat) : Nat := if mayV l then sumL l (bitsL (m &&& (2 ^ l.length - 1))) else 0
theorem sumL_snoc (l : List Int) (ks : List Nat) (k : Nat) : sumL l (ks ++ [k]) = sumL l ks + (nth l k).toNat := by simp [sumL]
theorem sumL_le {l : List Int} (h : overL l = false) (ks : List Nat) : sumL l ks ≤ ks.length * 1099511627776 := by
  induction ks with
  | nil => simp [sumL]
  | cons k ks ih =>
    have : (nth l k).toNat ≤ 1099511627776 := by
      unfold nth
      by_cases hk : k < l.length
      · unfold overL at h
        have := List.any_eq_false.1 h l[k] (List.getElem_mem hk)
        simp at this
        simp [hk]; omega
      · simp [hk]
    simp only [sumL, List.map_cons, List.sum_cons, List.length_cons] at *
    omega
theorem mayV_iff {l : List Int} : mayV l = true ↔ 0 < l.length ∧ l.length ≤ 8 ∧ overL l = false := by
  unfold mayV
  simp [and_assoc]
theorem low_lt {m n v : Nat} (h : v ∈ bitsL (m &&& (2 ^ n - 1))) : v < n := by
  have := (mem_bitsL.1 h).2
  rw [Nat.testBit_and, Nat.testBit_two_pow_sub_one] at this
  simp at this
  exact this.2
end Stake
theorem may1_any (x : Int) (w : World) : Calls Tryd.prog 30 #[.int .u64 x] w fun e w' => e = .returned (.bool (decide (1099511627776 < x))) ∧ w' = w := by
  go_enter Tryd.func30, Tryd.ntmps30
  go_wp2
  go_ret
  exact ⟨rfl, rfl⟩
set_option maxHeartbeats 1000000 in
theorem stIndex_any (A : Option Addr) (n c : Nat) (l : List Int) (w : World) (h : Ints w .u64 A n c l) :
    Calls Tryd.prog 37 #[.slice A n c, .func (.func 30) #[] #[]] w fun e w' => (∃ r : Int, e = .returned (.int .i64 r) ∧ decide (0 ≤ r) = Stake.overL l) ∧ w' = w := by
  have hv := h.view
  have hlen := h.len
  have hroom := h.room
  subst hlen
  clear h
  have H1 := Lib.hid (fun x W => may1_any x W)
  go_enter Tryd.func37, Tryd.ntmps37
  go_wp2
  go_loopw [5, 8] (fun _ i wr => ∃ k : Nat, k ≤ l.length ∧ i = .int .i64 k ∧ (∀ j, j < k → nth l j ≤ 1099511627776) ∧ wr = w) (fun _ i _ => l.length - (intOf i).toNat)
  case atStart => exact ⟨0, Nat.zero_le _, rfl, (fun j hj => absurd hj (Nat.not_lt_zero j)), rfl⟩
  case round =>
    obtain ⟨k, hk, rfl, hno, rfl⟩ := hrel
    have HNO := Lib.hid hno
    clear hno
    by_cases hlt : k < l.length
    · rcases hv with h0 | ⟨b, off, rfl, hc⟩
      · omega
      have dx := hc k hlt
      clear hc
      go_wp2_with fail
      refine (H1.out _ _).mono ?_
      rintro e w' ⟨rfl, rfl⟩
      by_cases ho : 1099511627776 < nth l k
      · go_wp2
        go_ret
        refine ⟨⟨_, rfl, ?_⟩, rfl⟩
        have : Stake.overL l = true := List.any_eq_true.2 ⟨nth l k, by rw [nth_eq hlt]; exact List.getElem_mem hlt, by simpa using ho⟩
        rw [this]; simp
      · go_wp2
        go_roundw
        case rel =>
          refine ⟨k + 1, by omega, by go_num, fun j hj => ?_, trivial⟩
          rcases Nat.lt_or_eq_of_le (Nat.lt_succ_iff.1 hj) with h | rfl
          · exact HNO.out j h
          · omega
        case measure => simp [intOf]; omega
    · have e : k = l.length := by omega
      subst e
      go_wp2
      go_ret
      refine ⟨⟨_, rfl, ?_⟩, rfl⟩
      have : Stake.overL l = false := List.any_eq_false.2 (fun x hx => by
        obtain ⟨i, hi, rfl⟩ := List.getElem_of_mem hx
        have := HNO.out i hi
        rw [nth_eq hi] at this
        simpa using this)
      rw [this]; simp
theorem stContains_any (A : Option Addr) (n c : Nat) (l : List Int) (w : World) (h : Ints w .u64 A n c l) :
    Calls Tryd.prog 31 #[.slice A n c, .func (.func 30) #[] #[]] w fun e w' => e = .returned (.bool (Stake.overL l)) ∧ w' = w := by
  have H := Lib.hid (stIndex_any A n c l w h)
  clear h
  obtain ⟨b, hb⟩ : ∃ b, Stake.overL l = b := ⟨_, rfl⟩
  rw [hb] at H ⊢
  clear hb
  go_enter Tryd.func31, Tryd.ntmps31
  go_wp2_with fail
  refine H.out.mono ?_
  rintro e w' ⟨⟨r, rfl, rfl⟩, rfl⟩
  go_wp2
  go_ret
  exact ⟨rfl, rfl⟩
theorem smay_any (A : Option Addr) (n c : Nat) (l : List Int) (w : World) (h : Ints w .u64 A n c l) :
    Calls Tryd.prog 20 #[.slice A n c] w fun e w' => e = .returned (.bool (Stake.mayV l)) ∧ w' = w := by
  have H := Lib.hid (stContains_any A n c l w h)
  have hlen := h.len
  have hroom := h.room
  clear h
  subst hlen
  by_cases h0 : 0 < l.length
  · by_cases h8 : l.length ≤ 8
    · have e : Stake.mayV l = !Stake.overL l := by unfold Stake.mayV; simp [h0, h8]
      rw [e]
      have g0 : (0 : Int) < l.length := by omega
      have g8 : (l.length : Int) ≤ 8 := by omega
      cases hov : Stake.overL l with
      | true =>
        rw [hov] at H
        go_enter Tryd.func20, Tryd.ntmps20
        go_wp2_with fail
        refine H.out.mono ?_
        rintro e w' ⟨rfl, rfl⟩
        go_wp2
        go_ret
        exact ⟨rfl, rfl⟩
      | false =>
        rw [hov] at H
        go_enter Tryd.func20, Tryd.ntmps20
        go_wp2_with fail
        refine H.out.mono ?_
        rintro e w' ⟨rfl, rfl⟩
        go_wp2
        go_ret
        exact ⟨rfl, rfl⟩
    · have e : Stake.mayV l = false := by unfold Stake.mayV; simp [h8]
      rw [e]
      have g0 : (0 : Int) < l.length := by omega
      have g8 : ¬ (l.length : Int) ≤ 8 := by omega
      go_enter Tryd.func20, Tryd.ntmps20
      go_wp2
      go_ret
      exact ⟨rfl, rfl⟩
  · have e : Stake.mayV l = false := by unfold Stake.mayV; simp [h0]
    rw [e]
    have g0 : ¬ (0 : Int) < l.length := by omega
    go_enter Tryd.func20, Tryd.ntmps20
    go_wp2
    go_ret
    exact ⟨rfl, rfl⟩

theorem own_set {A : World} {B B' : Nat} {v : Value} (h : B' ≠ B) : (A.setCell ⟨B, 0, none⟩ v).heap[B']? = A.heap[B']? := Below.heap_setCell A ⟨B, 0, none⟩ v _ h

set_option maxRecDepth 100000 in
set_option maxHeartbeats 2000000 in
theorem of_in (A : Option Addr) (n c : Nat) (l : List Int) (m : Nat) (hm : m < 18446744073709551616) (w : World) (h : Ints w .u64 A n c l) (hT : Tab w) :
    CallsIn Fence.wide 9 Tryd.prog 10 #[.slice A n c, .int .u64 m] w fun e w' => e = .returned (.int .u64 (Stake.ofV l m : Nat)) ∧ Ext w w' := by
  have HM := Lib.hid (fun W (k : Ext w W) => smay_any A n c l W (h.ext k))
  have HI := Lib.hid (fun W (k : Ext w W) => h.ext k)
  have HT := Lib.hid (fun W (k : Ext w W) => Tab.ext hT k)
  have hlen := h.len
  have hroom := h.room
  clear h hT
  cases hmay : Stake.mayV l with
  | false =>
    have e : Stake.ofV l m = 0 := by unfold Stake.ofV; rw [hmay]; rfl
    rw [e]
    rw [hmay] at HM
    refine callsIn_of_wp_marks Tryd.func10 rfl trivial ?_ rfl
    simp only [Tryd.ntmps10, List.size_toArray, List.length_cons, List.length_nil, Nat.reduceAdd, Nat.reduceSub, Array.replicate_succ, Array.replicate_zero, List.push_toArray, List.append_toArray, List.nil_append, List.cons_append]
    gi_wp2_with (refine ⟨trivial, ?_⟩; gi_at_call 20; refine (callsIn_wide.2 (HM.out _ ((by repeat (first | assumption | exact Ext.refl _ | refine Ext.alloc ?_ _ | refine Ext.drew ?_ | refine Ext.drewN ?_ _ | refine Ext.setCell ?_ (by first | (simp; done) | omega | (simp; omega)) _ | refine Ext.trans (by assumption) ?_))))).mono ?_; rintro e w' ⟨rfl, rfl⟩)
    exact ⟨_, results_tmp rfl _ _ _, rfl, (by repeat (first | assumption | exact Ext.refl _ | refine Ext.alloc ?_ _ | refine Ext.drew ?_ | refine Ext.drewN ?_ _ | refine Ext.setCell ?_ (by first | (simp; done) | omega | (simp; omega)) _ | refine Ext.trans (by assumption) ?_))⟩
  | true =>
    rw [hmay] at HM
    obtain ⟨h1, h8, hov⟩ := Stake.mayV_iff.1 hmay
    have e : Stake.ofV l m = Stake.sumL l (Stake.bitsL (m &&& (2 ^ l.length - 1))) := by unfold Stake.ofV; rw [hmay]; rfl
    rw [e]
    clear e
    have hp1 : 1 ≤ 2 ^ l.length := Nat.one_le_two_pow
    have hp2 : 2 ^ l.length ≤ 2 ^ 8 := Nat.pow_le_pow_right (by omega) h8
    have hbit : Stake.bitV (n : Int) = 2 ^ l.length := by rw [← hlen]; unfold Stake.bitV; rw [if_neg (by omega)]; simp
    have hb := fun W => bit_any (n : Int) (by omega) (by omega) W
    rw [hbit] at hb
    have HB := Lib.hid hb
    clear hb hbit
    generalize hK : 2 ^ l.length = K at *
    have hw1 : IntKind.u64.wrap ((K : Int) - 1) = ((K - 1 : Nat) : Int) := by rw [IntKind.wrap_u64]; omega
    have hw2 : bits .and .u64 (m : Int) ((K - 1 : Nat) : Int) = ((m &&& (K - 1) : Nat) : Int) := bits_and_u64_nat m (K - 1) hm (by omega)
    have hlow : ∀ v, v ∈ Stake.bitsL (m &&& (K - 1)) → v < l.length := fun v hv => Stake.low_lt (m := m) (by rw [hK]; exact hv)
    have HL := Lib.hid hlow
    have hm2 : m &&& (K - 1) < 18446744073709551616 := Nat.lt_of_le_of_lt Nat.and_le_left hm
    clear hlow
    refine callsIn_of_wp_marks Tryd.func10 rfl trivial ?_ rfl
    simp only [Tryd.ntmps10, List.size_toArray, List.length_cons, List.length_nil, Nat.reduceAdd, Nat.reduceSub, Array.replicate_succ, Array.replicate_zero, List.push_toArray, List.append_toArray, List.nil_append, List.cons_append]
    gi_wp2_with (first | (refine ⟨trivial, ?_⟩; gi_at_call 20; refine (callsIn_wide.2 (HM.out _ ((by repeat (first | assumption | exact Ext.refl _ | refine Ext.alloc ?_ _ | refine Ext.drew ?_ | refine Ext.drewN ?_ _ | refine Ext.setCell ?_ (by first | (simp; done) | omega | (simp; omega)) _ | refine Ext.trans (by assumption) ?_))))).mono ?_; rintro e w' ⟨rfl, rfl⟩) | (refine ⟨trivial, ?_⟩; gi_at_call 8; refine (callsIn_wide.2 (HB.out _)).mono ?_; rintro e w' ⟨rfl, rfl⟩) | (refine ⟨trivial, ?_⟩; gi_at_call 21; refine (callsIn_wide.2 (each_any _ _)).mono ?_; rintro e w' ⟨rfl, rfl⟩))
    have c2 : ((((w.alloc (.cells #[.slice A n c] 29)).alloc (.cells #[.int .u64 0] 26)).alloc (.cells #[.int .u64 ((m &&& (K - 1) : Nat) : Int)] 26))).cell? ⟨w.heap.size + 1 + 1, 0, none⟩ = some (.int .u64 ((m &&& (K - 1) : Nat) : Int)) := by simp (maxDischargeDepth := 7) [go_sem]
    have f2 : ((((w.alloc (.cells #[.slice A n c] 29)).alloc (.cells #[.int .u64 0] 26)).alloc (.cells #[.int .u64 ((m &&& (K - 1) : Nat) : Int)] 26))).frozen? ⟨w.heap.size + 1 + 1, 0, none⟩ = false := by simp (maxDischargeDepth := 7) [go_sem]
    have c11 : ((((w.alloc (.cells #[.slice A n c] 29)).alloc (.cells #[.int .u64 0] 26)).alloc (.cells #[.int .u64 ((m &&& (K - 1) : Nat) : Int)] 26))).cell? ⟨w.heap.size + 1, 0, none⟩ = some (.int .u64 0) := by simp (maxDischargeDepth := 7) [go_sem]
    have f11 : ((((w.alloc (.cells #[.slice A n c] 29)).alloc (.cells #[.int .u64 0] 26)).alloc (.cells #[.int .u64 ((m &&& (K - 1) : Nat) : Int)] 26))).frozen? ⟨w.heap.size + 1, 0, none⟩ = false := by simp (maxDischargeDepth := 7) [go_sem]
    have c01 : ((((w.alloc (.cells #[.slice A n c] 29)).alloc (.cells #[.int .u64 0] 26)).alloc (.cells #[.int .u64 ((m &&& (K - 1) : Nat) : Int)] 26))).cell? ⟨w.heap.size, 0, none⟩ = some (.slice A n c) := by simp (maxDischargeDepth := 7) [go_sem]
    have hB0 : Below w.heap.size w (((w.alloc (.cells #[.slice A n c] 29)).alloc (.cells #[.int .u64 0] 26)).alloc (.cells #[.int .u64 ((m &&& (K - 1) : Nat) : Int)] 26)) := (((Below.refl _ w).alloc (Nat.le_refl _) _).alloc (by simp) _).alloc (by simp; omega) _
    refine range_cap (w := (((w.alloc (.cells #[.slice A n c] 29)).alloc (.cells #[.int .u64 0] 26)).alloc (.cells #[.int .u64 ((m &&& (K - 1) : Nat) : Int)] 26))) rfl (by omega) (gf := 32) (lb := #[.pointer (some ⟨w.heap.size + 1 + 1, 0, none⟩)]) rfl trivial (enters_of Tryd.func32 (by kernel_rfl) rfl)
      (B := w.heap.size + 1 + 1) (xs := Stake.bitsL (m &&& (K - 1))) (T := Tab) (by simp) (each1_in _ hm2 _ _ c2 f2)
      (fun pre W => (W.cell? ⟨w.heap.size + 1, 0, none⟩ = some (.int .u64 (Stake.sumL l pre : Nat)) ∧ W.frozen? ⟨w.heap.size + 1, 0, none⟩ = false ∧ W.cell? ⟨w.heap.size, 0, none⟩ = some (.slice A n c)) ∧ Below w.heap.size w W)
      (OwnFrom.and (Own.from (fun s A B row hs hg hr => ⟨cell_kept hs.1 hg hr, (frozen_kept hs.1 hg hr).trans hs.2.1, cell_kept hs.2.2 hg hr⟩) _) (ownFrom_below (Nat.le_refl _) (by simp; omega)))
      (fun s A v hs => ⟨⟨(World.cell?_of_block (own_set (B := w.heap.size + 1 + 1) (B' := w.heap.size + 1) (by omega))).trans hs.1.1, (World.frozen?_of_block (a := ⟨w.heap.size + 1, 0, none⟩) (own_set (B := w.heap.size + 1 + 1) (B' := w.heap.size + 1) (by omega))).trans hs.1.2.1, (World.cell?_of_block (own_set (B := w.heap.size + 1 + 1) (B' := w.heap.size) (by omega))).trans hs.1.2.2⟩, hs.2.setCell (p := ⟨w.heap.size + 1 + 1, 0, none⟩) (show w.heap.size ≤ w.heap.size + 1 + 1 by omega) _⟩)
      ⟨⟨c11, f11, c01⟩, hB0⟩ (fun s A hs => HT.out _ ⟨hs.2⟩)
      (fun x => { tmps := #[.slice A n c, .int .u64 m, .pointer (some ⟨w.heap.size, 0, none⟩), undef, .int .u64 0, .pointer (some ⟨w.heap.size + 1, 0, none⟩), .int .i64 (x : Nat), .slice A n c, .bool true, .bool false, .int .u64 m, .slice A n c, .int .i64 n, .int .u64 K, .int .u64 ((K - 1 : Nat) : Int), .int .u64 ((m &&& (K - 1) : Nat) : Int), .func (.func 32) #[] #[.pointer (some ⟨w.heap.size + 1 + 1, 0, none⟩)], .int .i64 (x : Nat), undef, undef, undef, undef, undef, undef, undef], defers := [] }) ?assign ?body ?done
    case assign =>
      intro l x W K hK
      gi_wp2
      exact hK
    case body =>
      rintro lp pre x W ⟨⟨hc, hf, hs⟩, hB⟩ hpx
      have hx : x < l.length := HL.out x (hpx.subset (by simp))
      have hle := Stake.sumL_le hov pre
      have hpl : pre.length ≤ 64 := Nat.le_trans (List.IsPrefix.length_le ((List.prefix_append pre [x]).trans hpx)) (Stake.bitsL_len _)
      have hI := HI.out W ⟨hB⟩
      have hu := hI.u64 x
      rcases hI.view with h0 | ⟨b, off, rfl, hcs⟩
      · omega
      have dx := hcs x (by omega)
      clear hcs
      have hxb : (nth l x).toNat ≤ 1099511627776 := by
        have := Stake.sumL_le hov [x]
        simpa [Stake.sumL] using this
      obtain ⟨y, hy⟩ : ∃ y : Nat, nth l x = (y : Int) := ⟨(nth l x).toNat, by omega⟩
      rw [hy] at dx hxb
      have hsn : Stake.sumL l (pre ++ [x]) = Stake.sumL l pre + y := by rw [Stake.sumL_snoc, hy]; rfl
      have HSN := Lib.hid hsn
      have hadd : IntKind.u64.wrap ((Stake.sumL l pre : Int) + (y : Int)) = ((Stake.sumL l pre + y : Nat) : Int) := by
        rw [IntKind.wrap_u64]; simp at hxb; omega
      clear hsn hy hI hu hle hpl hxb
      have g1 : (x : Int) < n := by omega
      have g2 : (0 : Int) ≤ x := by omega
      have hmix : Tryd.prog.follows .mixedOrders = true := by kernel_rfl
      gi_wp2
      gi_region_with_o (fail)
      all_goals gi_wp2
      all_goals
        refine ⟨(KeepsOthers.setCell W ⟨w.heap.size + 1, 0, none⟩ _).trans (KeepsOthers.drew _), own_set (B := w.heap.size + 1) (B' := w.heap.size + 1 + 1) (by omega), ⟨?_, ?_, ?_⟩, ?_⟩
        · rw [HSN.out, cell_drew_own, World.cell?_setCell_same' _ _ _ (by rw [hc]; rfl)]; simp
        · rw [frozen_drew_own, World.frozen?_setCell]; exact hf
        · rw [cell_drew_own]; exact (World.cell?_of_block (own_set (B := w.heap.size + 1) (B' := w.heap.size) (by omega))).trans hs
        · exact (hB.setCell (p := ⟨w.heap.size + 1, 0, none⟩) (show w.heap.size ≤ w.heap.size + 1 by omega) _).drew
    case done =>
      rintro D W hD ⟨⟨hc, hf, hs⟩, hB⟩ hK
      gi_wp2
      refine ⟨by simp, .inl ⟨_, _, rfl, run_takeDeferred hK, ?_⟩⟩
      exact ⟨_, results_tmp rfl _ _ _, rfl, ⟨hB.trans (belowK_b (w := w) (Nat.le_refl _) W D _ _ (by simp at hD; omega) hK rfl rfl)⟩⟩

theorem of_any (A : Option Addr) (n c : Nat) (l : List Int) (m : Nat) (hm : m < 18446744073709551616) (w : World) (h : Ints w .u64 A n c l) (hT : Tab w) :
    Calls Tryd.prog 10 #[.slice A n c, .int .u64 m] w fun e w' => e = .returned (.int .u64 (Stake.ofV l m : Nat)) ∧ Ext w w' := callsIn_wide.1 (of_in A n c l m hm w h hT)
theorem total_any (A : Option Addr) (n c : Nat) (l : List Int) (w : World) (h : Ints w .u64 A n c l) (hT : Tab w) :
    Calls Tryd.prog 9 #[.slice A n c] w fun e w' => e = .returned (.int .u64 (Stake.ofV l 18446744073709551615 : Nat)) ∧ Ext w w' := by
  have H := Lib.hid (of_any A n c l 18446744073709551615 (by omega) w h hT)
  clear h hT
  go_enter Tryd.func9, Tryd.ntmps9
  go_wp2_with fail
  refine H.out.mono ?_
  rintro e w' ⟨rfl, hx⟩
  go_wp2
  go_ret
  exact ⟨rfl, hx⟩
namespace Stake
theorem ofV_le (l : List Int) (m : Nat) : ofV l m ≤ 70368744177664 := by
  unfold ofV
  split
  · rename_i h
    have h1 := (mayV_iff.1 h).2.2
    have := sumL_le h1 (bitsL (m &&& (2 ^ l.length - 1)))
    have := bitsL_len (m &&& (2 ^ l.length - 1))
    omega
  · omega
def mostV (l : List Int) (m : Nat) : Bool := mayV l && Num.most (ofV l m) (ofV l 18446744073709551615)
def someV (l : List Int) (m : Nat) : Bool := mayV l && Num.some (ofV l m) (ofV l 18446744073709551615)
end Stake






end Go.Proofs.YtjhhfininnlkfaaDoor
