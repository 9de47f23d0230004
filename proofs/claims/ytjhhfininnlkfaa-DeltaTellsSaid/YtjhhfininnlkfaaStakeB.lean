/- XStake beside XBit (which has bitV and bit_any). -/
/- The contracts of layer 11 (stake). -/
import Derived.Test.YtjhhfininnlkfaaStakeBits
import Derived.Test.YtjhhfininnlkfaaBit
import Derived.Test.YtjhhfininnlkfaaNum
import Derived.Shelf.Spec.TrailingZeros
namespace Go.Proofs.Ytjhhfininnlkfaa
open Go.RowKit Go.WideShapes Go.ChangeShapes
set_option linter.unusedVariables false
set_option linter.unusedSimpArgs false
attribute [local go_sem] Oper.semAt_some














































































namespace Stake
def overL (l : List Int) : Bool := l.any (fun x => decide (1099511627776 < x))
def mayV (l : List Int) : Bool := decide (0 < l.length) && decide (l.length ≤ 8) && !overL l
/-- What those at these places have. -/
def sumL (l : List Int) (ks : List Nat) : Nat := (ks.map (fun k => (nth l k).toNat)).sum
def ofV (l : List Int) (m : Nat) : Nat := if mayV l then sumL l (bitsL (m &&& (2 ^ l.length - 1))) else 0
theorem sumL_snoc (l : List Int) (ks : List Nat) (k : Nat) : sumL l (ks ++ [k]) = sumL l ks + (nth l k).toNat := by simp [sumL]
theorem sumL_le {l : List Int} (h : overL l = false) (ks : List Nat) : sumL l ks ≤ ks.length * 1099511627776 := by
  induction ks with
  | nil => simp [sumL]
  | cons k ks ih =>
    have : (nth l k).toNat ≤ 1099511627776 := by
      unfold nth
      by_cases hk : k < l.length
      · unfold overL at h
        have := List.any_eq_false.1 h l[k] (List.getElem_mem hk)
        simp at this
        simp [hk]; omega
      · simp [hk]
    simp only [sumL, List.map_cons, List.sum_cons, List.length_cons] at *
    omega
theorem mayV_iff {l : List Int} : mayV l = true ↔ 0 < l.length ∧ l.length ≤ 8 ∧ overL l = false := by
  unfold mayV
  simp [and_assoc]
theorem low_lt {m n v : Nat} (h : v ∈ bitsL (m &&& (2 ^ n - 1))) : v < n := by
  have := (mem_bitsL.1 h).2
  rw [Nat.testBit_and, Nat.testBit_two_pow_sub_one] at this
  simp at this
  exact this.2
end Stake
theorem may1_any (x : Int) (w : World) : Calls Try.prog 46 #[.int .u64 x] w fun e w' => e = .returned (.bool (decide (1099511627776 < x))) ∧ w' = w := by
  go_enter Try.func46, Try.ntmps46
  go_wp2
  go_ret
  exact ⟨rfl, rfl⟩
set_option maxHeartbeats 1000000 in
theorem stIndex_any (A : Option Addr) (n c : Nat) (l : List Int) (w : World) (h : Ints w .u64 A n c l) :
    Calls Try.prog 52 #[.slice A n c, .func (.func 46) #[] #[]] w fun e w' => (∃ r : Int, e = .returned (.int .i64 r) ∧ decide (0 ≤ r) = Stake.overL l) ∧ w' = w := by
  have hv := h.view
  have hlen := h.len
  have hroom := h.room
  subst hlen
  clear h
  have H1 := Lib.hid (fun x W => may1_any x W)
  go_enter Try.func52, Try.ntmps52
  go_wp2
  go_loopw [5, 8] (fun _ i wr => ∃ k : Nat, k ≤ l.length ∧ i = .int .i64 k ∧ (∀ j, j < k → nth l j ≤ 1099511627776) ∧ wr = w) (fun _ i _ => l.length - (intOf i).toNat)
  case atStart => exact ⟨0, Nat.zero_le _, rfl, (fun j hj => absurd hj (Nat.not_lt_zero j)), rfl⟩
  case round =>
    obtain ⟨k, hk, rfl, hno, rfl⟩ := hrel
    have HNO := Lib.hid hno
    clear hno
    by_cases hlt : k < l.length
    · rcases hv with h0 | ⟨b, off, rfl, hc⟩
      · omega
      have dx := hc k hlt
      clear hc
      go_wp2_with fail
      refine (H1.out _ _).mono ?_
      rintro e w' ⟨rfl, rfl⟩
      by_cases ho : 1099511627776 < nth l k
      · go_wp2
        go_ret
        refine ⟨⟨_, rfl, ?_⟩, rfl⟩
        have : Stake.overL l = true := List.any_eq_true.2 ⟨nth l k, by rw [nth_eq hlt]; exact List.getElem_mem hlt, by simpa using ho⟩
        rw [this]; simp
      · go_wp2
        go_roundw
        case rel =>
          refine ⟨k + 1, by omega, by go_num, fun j hj => ?_, trivial⟩
          rcases Nat.lt_or_eq_of_le (Nat.lt_succ_iff.1 hj) with h | rfl
          · exact HNO.out j h
          · omega
        case measure => simp [intOf]; omega
    · have e : k = l.length := by omega
      subst e
      go_wp2
      go_ret
      refine ⟨⟨_, rfl, ?_⟩, rfl⟩
      have : Stake.overL l = false := List.any_eq_false.2 (fun x hx => by
        obtain ⟨i, hi, rfl⟩ := List.getElem_of_mem hx
        have := HNO.out i hi
        rw [nth_eq hi] at this
        simpa using this)
      rw [this]; simp
theorem stContains_any (A : Option Addr) (n c : Nat) (l : List Int) (w : World) (h : Ints w .u64 A n c l) :
    Calls Try.prog 47 #[.slice A n c, .func (.func 46) #[] #[]] w fun e w' => e = .returned (.bool (Stake.overL l)) ∧ w' = w := by
  have H := Lib.hid (stIndex_any A n c l w h)
  clear h
  obtain ⟨b, hb⟩ : ∃ b, Stake.overL l = b := ⟨_, rfl⟩
  rw [hb] at H ⊢
  clear hb
  go_enter Try.func47, Try.ntmps47
  go_wp2_with fail
  refine H.out.mono ?_
  rintro e w' ⟨⟨r, rfl, rfl⟩, rfl⟩
  go_wp2
  go_ret
  exact ⟨rfl, rfl⟩
theorem smay_any (A : Option Addr) (n c : Nat) (l : List Int) (w : World) (h : Ints w .u64 A n c l) :
    Calls Try.prog 33 #[.slice A n c] w fun e w' => e = .returned (.bool (Stake.mayV l)) ∧ w' = w := by
  have H := Lib.hid (stContains_any A n c l w h)
  have hlen := h.len
  have hroom := h.room
  clear h
  subst hlen
  by_cases h0 : 0 < l.length
  · by_cases h8 : l.length ≤ 8
    · have e : Stake.mayV l = !Stake.overL l := by unfold Stake.mayV; simp [h0, h8]
      rw [e]
      have g0 : (0 : Int) < l.length := by omega
      have g8 : (l.length : Int) ≤ 8 := by omega
      cases hov : Stake.overL l with
      | true =>
        rw [hov] at H
        go_enter Try.func33, Try.ntmps33
        go_wp2_with fail
        refine H.out.mono ?_
        rintro e w' ⟨rfl, rfl⟩
        go_wp2
        go_ret
        exact ⟨rfl, rfl⟩
      | false =>
        rw [hov] at H
        go_enter Try.func33, Try.ntmps33
        go_wp2_with fail
        refine H.out.mono ?_
        rintro e w' ⟨rfl, rfl⟩
        go_wp2
        go_ret
        exact ⟨rfl, rfl⟩
    · have e : Stake.mayV l = false := by unfold Stake.mayV; simp [h8]
      rw [e]
      have g0 : (0 : Int) < l.length := by omega
      have g8 : ¬ (l.length : Int) ≤ 8 := by omega
      go_enter Try.func33, Try.ntmps33
      go_wp2
      go_ret
      exact ⟨rfl, rfl⟩
  · have e : Stake.mayV l = false := by unfold Stake.mayV; simp [h0]
    rw [e]
    have g0 : ¬ (0 : Int) < l.length := by omega
    go_enter Try.func33, Try.ntmps33
    go_wp2
    go_ret
    exact ⟨rfl, rfl⟩


















































































































namespace Stake
theorem ofV_le (l : List Int) (m : Nat) : ofV l m ≤ 70368744177664 := by
  unfold ofV
  split
  · rename_i h
    have h1 := (mayV_iff.1 h).2.2
    have := sumL_le h1 (bitsL (m &&& (2 ^ l.length - 1)))
    have := bitsL_len (m &&& (2 ^ l.length - 1))
    omega
  · omega
def mostV (l : List Int) (m : Nat) : Bool := mayV l && Num.most (ofV l m) (ofV l 18446744073709551615)
def someV (l : List Int) (m : Nat) : Bool := mayV l && Num.some (ofV l m) (ofV l 18446744073709551615)
end Stake






end Go.Proofs.Ytjhhfininnlkfaa
