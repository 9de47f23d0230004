/- StakeMore: with more of them it is no less; whoever is told by a bit has it, and no other; for every input. The library's table of trailing zeros is the one condition; it is tied to the program's text. -/
import Derived.Test.YtchfaiogiamfbaaDoorStakeLaw
import Derived.SevenTiedAt
namespace Go.Proofs.YtchfaiogiamfbaaDoor
open Go.RowKit Go.WideShapes Go.ChangeShapes Go.ChangeAt
set_option linter.unusedVariables false
set_option linter.unusedSimpArgs false


namespace Stake
def powS (ks : List Nat) : Nat := (ks.map (fun k => 2 ^ k)).sum
theorem powS_succ {ks : List Nat} {i : Nat} (hi : i < ks.length) : powS (ks.take (i + 1)) = powS (ks.take i) + 2 ^ ks[i] := by
  rw [take_succ' hi]
  unfold powS
  rw [List.map_append, List.sum_append]
  simp
theorem powS_le (ks : List Nat) : ∀ i, powS (ks.take i) ≤ powS ks := by
  intro i
  have h : powS ks = powS (ks.take i) + powS (ks.drop i) := by
    unfold powS
    rw [← List.sum_append, ← List.map_append, List.take_append_drop]
  omega
theorem sumB_pow (m : Nat) : ∀ n, sumB (fun v => 2 ^ v) m n = m % 2 ^ n := by
  intro n
  induction n with
  | zero => simp [sumB, Nat.mod_one]
  | succ n ih =>
    rw [sumB_succ, ih, Nat.mod_pow_succ, Nat.testBit_eq_decide_div_mod_eq]
    have : m / 2 ^ n % 2 < 2 := Nat.mod_lt _ (by omega)
    by_cases h : m / 2 ^ n % 2 = 1
    · simp [h]
    · have h0 : m / 2 ^ n % 2 = 0 := by omega
      simp [h0]
theorem powS_all {m : Nat} (hm : m < 18446744073709551616) : powS (bitsL m) = m := by
  unfold powS
  rw [sumB_bits, sumB_pow]
  exact Nat.mod_eq_of_lt (by simpa using hm)
theorem bits_rise (m : Nat) {i : Nat} (h : i + 1 < (bitsL m).length) : (bitsL m)[i] < (bitsL m)[i + 1] := by
  have hp : (bitsL m).Pairwise (· < ·) := List.pairwise_lt_range.filter _
  exact List.pairwise_iff_getElem.1 hp i (i + 1) (by omega) h (by omega)
end Stake
theorem who_nth {m i : Nat} (hi : i < (Stake.bitsL m).length) : nth (whoV m) i = ((Stake.bitsL m)[i] : Int) := by
  unfold whoV nth
  simp [hi]
set_option maxHeartbeats 4000000 in
theorem StakeMore_walk {w : World} (A : Option Addr) (n c : Nat) (l : List Int) (h : Ints w .u64 A n c l) (a : Nat) (ha : a < 18446744073709551616) (b : Nat) (hb : b < 18446744073709551616) (hT : Tab w) :
    Calls Tryd.prog 6 #[.slice A n c, .int .u64 a, .int .u64 b] w fun e w' => e = .returned (.bool true) ∧ Ext w w' := by
  have HM := Lib.hid (fun W (k : Ext w W) => smay_any A n c l W (h.ext k))
  have HO := Lib.hid (fun m (hm : m < 18446744073709551616) W (k : Ext w W) => of_any A n c l m hm W (h.ext k) (hT.ext k))
  have HTo := Lib.hid (fun W (k : Ext w W) => total_any A n c l W (h.ext k) (hT.ext k))
  have HMo := Lib.hid (fun m (hm : m < 18446744073709551616) b (e : Stake.mostV l m = b) W (k : Ext w W) => most_is A n c l m hm b e W (h.ext k) (hT.ext k))
  have HSo := Lib.hid (fun m (hm : m < 18446744073709551616) b (e : Stake.someV l m = b) W (k : Ext w W) => some_is A n c l m hm b e W (h.ext k) (hT.ext k))
  have HAw := Lib.hid (fun W (k : Ext w W) => awake_any W (hT.ext k))
  have HW := Lib.hid (fun m (hm : m < 18446744073709551616) W (k : Ext w W) => who_any m hm W (hT.ext k))
  clear h hT
  have hbl := Stake.bitsL_len a
  have h2 : bits .or .u64 (a : Int) (b : Int) = ((a ||| b : Nat) : Int) := bits_or_u64_nat a b ha hb
  have l2 : a ||| b < 18446744073709551616 := by have := Nat.or_lt_two_pow (n := 64) (by simpa using ha) (by simpa using hb); simpa using this
  have hor := Stake.ofV_or l a b
  have hor1 : (Stake.ofV l a : Int) ≤ (Stake.ofV l (a ||| b) : Int) := by omega
  have HBit := Lib.hid (fun (x : Nat) (hx : x < 64) W => bit_is (x : Int) (by omega) (by omega) (2 ^ x) (by unfold Stake.bitV; rw [if_neg (by omega)]; simp) W)
  go_enter Tryd.func6, Tryd.ntmps6
  go_wp2_with fail
  refine (HAw.out _ ((by repeat (first | assumption | exact Ext.refl _ | refine Ext.alloc ?_ _ | refine Ext.drew ?_ | refine Ext.drewN ?_ _ | refine Ext.setCell ?_ (by first | (simp; done) | omega | (simp; omega)) _ | refine Ext.trans (by assumption) ?_)))).mono ?_
  rintro e w1 ⟨rfl, hx1⟩
  have k1 : Ext w w1 := Ext.trans ((by repeat (first | assumption | exact Ext.refl _ | refine Ext.alloc ?_ _ | refine Ext.drew ?_ | refine Ext.drewN ?_ _ | refine Ext.setCell ?_ (by first | (simp; done) | omega | (simp; omega)) _ | refine Ext.trans (by assumption) ?_))) hx1
  go_wp2_with fail
  refine (HW.out a ha _ ((by repeat (first | assumption | exact Ext.refl _ | refine Ext.alloc ?_ _ | refine Ext.drew ?_ | refine Ext.drewN ?_ _ | refine Ext.setCell ?_ (by first | (simp; done) | omega | (simp; omega)) _ | refine Ext.trans (by assumption) ?_)))).mono ?_
  rintro e w2 ⟨v2, rfl, ⟨A2, n2, c2, rfl, I2⟩, hx2⟩
  have k2 : Ext w w2 := Ext.trans ((by repeat (first | assumption | exact Ext.refl _ | refine Ext.alloc ?_ _ | refine Ext.drew ?_ | refine Ext.drewN ?_ _ | refine Ext.setCell ?_ (by first | (simp; done) | omega | (simp; omega)) _ | refine Ext.trans (by assumption) ?_))) hx2
  have hn2 : (Stake.bitsL a).length = n2 := by rw [← I2.len]; simp [whoV]
  subst hn2
  have HC := Lib.hid (fun W (k : Ext w2 W) => (I2.ext k).view)
  clear I2
  go_wp2
  go_loopw [9, 10] (fun s i wr => ∃ k : Nat, k ≤ (Stake.bitsL a).length ∧ i = .int .i64 k ∧ s = .int .u64 (Stake.powS ((Stake.bitsL a).take k) : Nat) ∧ Ext w2 wr) (fun _ i _ => (Stake.bitsL a).length - (intOf i).toNat)
  case atStart => exact ⟨0, Nat.zero_le _, rfl, rfl, Ext.refl _⟩
  case round =>
    obtain ⟨k, hk, rfl, rfl, hx⟩ := hrel
    have kr : Ext w wr := k2.trans hx
    by_cases hlt : k < (Stake.bitsL a).length
    · rcases HC.out _ hx with h0 | ⟨b', off, rfl, hcs⟩
      · omega
      have dx := hcs k hlt
      rw [who_nth hlt] at dx
      have hbd : (Stake.bitsL a)[k] < 64 := Stake.bitsL_lt (List.getElem_mem hlt)
      have hsu := Stake.powS_succ hlt
      have hle := Stake.powS_le (Stake.bitsL a) (k + 1)
      rw [Stake.powS_all ha] at hle
      have hadd : IntKind.u64.wrap ((Stake.powS ((Stake.bitsL a).take k) : Int) + ((2 ^ (Stake.bitsL a)[k] : Nat) : Int)) = ((Stake.powS ((Stake.bitsL a).take (k + 1)) : Nat) : Int) := by
        rw [IntKind.wrap_u64, hsu]; omega
      by_cases hk0 : 0 < k
      · obtain ⟨j, rfl⟩ : ∃ j, k = j + 1 := ⟨k - 1, by omega⟩
        have dy := hcs j (by omega)
        rw [who_nth (by omega)] at dy
        have hri := Stake.bits_rise a hlt
        clear hcs hsu hle
        obtain ⟨x, hxx⟩ : ∃ x, (Stake.bitsL a)[j + 1] = x := ⟨_, rfl⟩
        obtain ⟨y, hyy⟩ : ∃ y, (Stake.bitsL a)[j] = y := ⟨_, rfl⟩
        rw [hxx] at dx hbd hri hadd
        rw [hyy] at dy hri
        have hb1 := HBit.out x hbd
        generalize 2 ^ x = X at hb1 hadd
        have HB1 := Lib.hid hb1
        have g1 : (0 : Int) < ((j + 1 : Nat) : Int) := by omega
        have g2 : ¬ (x : Int) ≤ y := by omega
        have hw : IntKind.i64.wrap (((j + 1 : Nat) : Int) - 1) = (j : Int) := by rw [IntWalk.i64_in _ (by omega)]; omega
        clear hri hb1 hxx hyy
        go_wp2
        go_quiet (fail)
        go_wp2_with fail
        refine (HB1.out _).mono ?_
        rintro e w3 ⟨rfl, hx3⟩
        go_wp2
        go_roundw
        case rel => exact ⟨j + 1 + 1, by omega, by go_num, by first | rfl | simp, hx.trans (Ext.trans ((by repeat (first | assumption | exact Ext.refl _ | refine Ext.alloc ?_ _ | refine Ext.drew ?_ | refine Ext.drewN ?_ _ | refine Ext.setCell ?_ (by first | (simp; done) | omega | (simp; omega)) _ | refine Ext.trans (by assumption) ?_))) hx3)⟩
        case measure => simp [intOf]; omega
      · obtain rfl : k = 0 := by omega
        clear hcs hsu hle
        rw [Nat.add_zero] at dx
        obtain ⟨x, hxx⟩ : ∃ x, (Stake.bitsL a)[0] = x := ⟨_, rfl⟩
        rw [hxx] at dx hbd hadd
        have hb1 := HBit.out x hbd
        generalize 2 ^ x = X at hb1 hadd
        have HB1 := Lib.hid hb1
        have HAD := Lib.hid hadd
        clear hb1 hxx
        go_wp2
        go_quiet (fail)
        go_wp2_with fail
        refine (HB1.out _).mono ?_
        rintro e w3 ⟨rfl, hx3⟩
        go_wp2
        go_roundw
        case rel => exact ⟨0 + 1, by omega, by go_num, by first | rfl | (simp; done) | (have := HAD.out; simp at this ⊢; exact this), hx.trans (Ext.trans ((by repeat (first | assumption | exact Ext.refl _ | refine Ext.alloc ?_ _ | refine Ext.drew ?_ | refine Ext.drewN ?_ _ | refine Ext.setCell ?_ (by first | (simp; done) | omega | (simp; omega)) _ | refine Ext.trans (by assumption) ?_))) hx3)⟩
        case measure => simp [intOf]; omega
    · have e : k = (Stake.bitsL a).length := by omega
      subst e
      rw [List.take_length, Stake.powS_all ha]
      clear HC hbl
      go_wp2_with fail
      refine (HO.out (a ||| b) l2 _ ((by repeat (first | assumption | exact Ext.refl _ | refine Ext.alloc ?_ _ | refine Ext.drew ?_ | refine Ext.drewN ?_ _ | refine Ext.setCell ?_ (by first | (simp; done) | omega | (simp; omega)) _ | refine Ext.trans (by assumption) ?_)))).mono ?_
      rintro e w4 ⟨rfl, hx4⟩
      have k4 : Ext w w4 := Ext.trans ((by repeat (first | assumption | exact Ext.refl _ | refine Ext.alloc ?_ _ | refine Ext.drew ?_ | refine Ext.drewN ?_ _ | refine Ext.setCell ?_ (by first | (simp; done) | omega | (simp; omega)) _ | refine Ext.trans (by assumption) ?_))) hx4
      go_wp2_with fail
      refine (HO.out a ha _ ((by repeat (first | assumption | exact Ext.refl _ | refine Ext.alloc ?_ _ | refine Ext.drew ?_ | refine Ext.drewN ?_ _ | refine Ext.setCell ?_ (by first | (simp; done) | omega | (simp; omega)) _ | refine Ext.trans (by assumption) ?_)))).mono ?_
      rintro e w5 ⟨rfl, hx5⟩
      have k5 : Ext w w5 := Ext.trans ((by repeat (first | assumption | exact Ext.refl _ | refine Ext.alloc ?_ _ | refine Ext.drew ?_ | refine Ext.drewN ?_ _ | refine Ext.setCell ?_ (by first | (simp; done) | omega | (simp; omega)) _ | refine Ext.trans (by assumption) ?_))) hx5
      cases e1 : Stake.mostV l a with
      | false =>
        go_wp2_with fail
        refine (HMo.out a ha _ e1 _ ((by repeat (first | assumption | exact Ext.refl _ | refine Ext.alloc ?_ _ | refine Ext.drew ?_ | refine Ext.drewN ?_ _ | refine Ext.setCell ?_ (by first | (simp; done) | omega | (simp; omega)) _ | refine Ext.trans (by assumption) ?_)))).mono ?_
        rintro e w6 ⟨rfl, hx6⟩
        have k6 : Ext w w6 := Ext.trans ((by repeat (first | assumption | exact Ext.refl _ | refine Ext.alloc ?_ _ | refine Ext.drew ?_ | refine Ext.drewN ?_ _ | refine Ext.setCell ?_ (by first | (simp; done) | omega | (simp; omega)) _ | refine Ext.trans (by assumption) ?_))) hx6
        go_wp2_with fail
        refine (HMo.out a ha _ e1 _ ((by repeat (first | assumption | exact Ext.refl _ | refine Ext.alloc ?_ _ | refine Ext.drew ?_ | refine Ext.drewN ?_ _ | refine Ext.setCell ?_ (by first | (simp; done) | omega | (simp; omega)) _ | refine Ext.trans (by assumption) ?_)))).mono ?_
        rintro e w7 ⟨rfl, hx7⟩
        have k7 : Ext w w7 := Ext.trans ((by repeat (first | assumption | exact Ext.refl _ | refine Ext.alloc ?_ _ | refine Ext.drew ?_ | refine Ext.drewN ?_ _ | refine Ext.setCell ?_ (by first | (simp; done) | omega | (simp; omega)) _ | refine Ext.trans (by assumption) ?_))) hx7
        go_wp2
        go_ret
        exact ⟨rfl, (by repeat (first | assumption | exact Ext.refl _ | refine Ext.alloc ?_ _ | refine Ext.drew ?_ | refine Ext.drewN ?_ _ | refine Ext.setCell ?_ (by first | (simp; done) | omega | (simp; omega)) _ | refine Ext.trans (by assumption) ?_))⟩
      | true =>
        go_wp2_with fail
        refine (HMo.out a ha _ e1 _ ((by repeat (first | assumption | exact Ext.refl _ | refine Ext.alloc ?_ _ | refine Ext.drew ?_ | refine Ext.drewN ?_ _ | refine Ext.setCell ?_ (by first | (simp; done) | omega | (simp; omega)) _ | refine Ext.trans (by assumption) ?_)))).mono ?_
        rintro e w6 ⟨rfl, hx6⟩
        have k6 : Ext w w6 := Ext.trans ((by repeat (first | assumption | exact Ext.refl _ | refine Ext.alloc ?_ _ | refine Ext.drew ?_ | refine Ext.drewN ?_ _ | refine Ext.setCell ?_ (by first | (simp; done) | omega | (simp; omega)) _ | refine Ext.trans (by assumption) ?_))) hx6
        go_wp2_with fail
        refine (HMo.out (a ||| b) l2 _ (Stake.more l a b e1) _ ((by repeat (first | assumption | exact Ext.refl _ | refine Ext.alloc ?_ _ | refine Ext.drew ?_ | refine Ext.drewN ?_ _ | refine Ext.setCell ?_ (by first | (simp; done) | omega | (simp; omega)) _ | refine Ext.trans (by assumption) ?_)))).mono ?_
        rintro e w7 ⟨rfl, hx7⟩
        have k7 : Ext w w7 := Ext.trans ((by repeat (first | assumption | exact Ext.refl _ | refine Ext.alloc ?_ _ | refine Ext.drew ?_ | refine Ext.drewN ?_ _ | refine Ext.setCell ?_ (by first | (simp; done) | omega | (simp; omega)) _ | refine Ext.trans (by assumption) ?_))) hx7
        go_wp2_with fail
        refine (HMo.out a ha _ e1 _ ((by repeat (first | assumption | exact Ext.refl _ | refine Ext.alloc ?_ _ | refine Ext.drew ?_ | refine Ext.drewN ?_ _ | refine Ext.setCell ?_ (by first | (simp; done) | omega | (simp; omega)) _ | refine Ext.trans (by assumption) ?_)))).mono ?_
        rintro e w8 ⟨rfl, hx8⟩
        have k8 : Ext w w8 := Ext.trans ((by repeat (first | assumption | exact Ext.refl _ | refine Ext.alloc ?_ _ | refine Ext.drew ?_ | refine Ext.drewN ?_ _ | refine Ext.setCell ?_ (by first | (simp; done) | omega | (simp; omega)) _ | refine Ext.trans (by assumption) ?_))) hx8
        go_wp2_with fail
        refine (HSo.out a ha _ (Stake.most_some l a e1) _ ((by repeat (first | assumption | exact Ext.refl _ | refine Ext.alloc ?_ _ | refine Ext.drew ?_ | refine Ext.drewN ?_ _ | refine Ext.setCell ?_ (by first | (simp; done) | omega | (simp; omega)) _ | refine Ext.trans (by assumption) ?_)))).mono ?_
        rintro e w9 ⟨rfl, hx9⟩
        have k9 : Ext w w9 := Ext.trans ((by repeat (first | assumption | exact Ext.refl _ | refine Ext.alloc ?_ _ | refine Ext.drew ?_ | refine Ext.drewN ?_ _ | refine Ext.setCell ?_ (by first | (simp; done) | omega | (simp; omega)) _ | refine Ext.trans (by assumption) ?_))) hx9
        go_wp2
        go_ret
        exact ⟨rfl, (by repeat (first | assumption | exact Ext.refl _ | refine Ext.alloc ?_ _ | refine Ext.drew ?_ | refine Ext.drewN ?_ _ | refine Ext.setCell ?_ (by first | (simp; done) | omega | (simp; omega)) _ | refine Ext.trans (by assumption) ?_))⟩
theorem StakeMore_reads (os : Os) {H : Type} (enc : TypeId × Value → H) : ∃ places, DataW.whole enc Tryd.prog ((laidWorld os).forCall (fun _ _ => 0) ⟨#[], #[.slice none 0 0, .int .u64 0, .int .u64 0], []⟩).memory Tryd.f6.params.toList Rows.stakeMoreSpec.vars false #[.slice none 0 0, .int .u64 0, .int .u64 0].toList 8 = some ([.nil, .lit (.int .u64 0), .lit (.int .u64 0)], [], places) :=
  ⟨[], by kernel_rfl⟩
theorem StakeMore_met (os : Os) : laidMet Tryd.prog Rows.stakeMoreRow.laid ((laidWorld os).forCall (fun _ _ => 0) ⟨#[], #[.slice none 0 0, .int .u64 0, .int .u64 0], []⟩).memory :=
  laidMet_of_run' 8 (by kernel_rfl) (by kernel_rfl)
set_option maxRecDepth 100000 in
theorem StakeMore_lifted (os : Os) (started : os.Started) (H : Type) (enc : TypeId × Value → H) (F : Stop.Interp) :
    ReturnsInHanded {} Tryd.checked os 6 .any ((OpenSpec.ofChange Rows.stakeMoreSpec).preRow enc Tryd.prog Tryd.f6 Rows.stakeMoreRow.domain false Rows.stakeMoreRow.laid) (((OpenSpec.ofChange Rows.stakeMoreSpec).at F).post enc Tryd.prog Tryd.f6 false true false false) := by
  obtain ⟨places, hx⟩ := StakeMore_reads os enc
  refine returnsInHanded_of_row (C := Tryd.checked) (s := OpenSpec.ofChange Rows.stakeMoreSpec) own started (by kernel_rfl) Tryd.func6
    (witness_row_at (enc := enc) (C := Tryd.checked) false (laidWorld os) #[.slice none 0 0, .int .u64 0, .int .u64 0] rfl (by kernel_rfl) (by kernel_rfl) (by kernel_rfl)
      (OpenSpec.preRow_of_cond 8 hx (by kernel_rfl) (fun k hk => by cases hk) (by kernel_rfl) (StakeMore_met os))) ?_
  intro W base args ds gs before hval0 hW _hcnd _hcond hsz0 hL _ _
  have hval : ∀ (j : Nat) t v, Tryd.f6.params[j]? = some t → args[j]? = some v → Value.okWide Tryd.prog W .any base t v := hval0
  have hsz : (DataW.weightsEach Tryd.prog (Tryd.f6.params.toList ++ Rows.stakeMoreSpec.plain.varTypes Tryd.prog) (ds ++ gs)).all (· ≤ reachBytes) = true := hsz0
  have hW' : DataW.Whole enc Tryd.prog Tryd.f6.params.toList Rows.stakeMoreSpec.vars false W args.toList ds gs before := hW
  obtain ⟨p, q, hA0, hV, rfl, hfz, hnd⟩ := hW'
  have hW' : DataW.Whole enc Tryd.prog Tryd.f6.params.toList Rows.stakeMoreSpec.vars false W args.toList ds gs _ := hW
  have hA : DataW.TrodAll enc Tryd.prog W 0 (fun _ => true) true Tryd.f6.params.toList args.toList ds p := hA0
  rw [Tryd.params6] at hA hval hsz
  obtain ⟨v0, vs0, d0, ds0, p0, q0, hargs, rfl, rfl, h0, r0⟩ := trodAll_cons hA
  obtain ⟨v1, vs1, d1, ds1, p1, q1, rfl, rfl, rfl, h1, r1⟩ := trodAll_cons r0
  obtain ⟨v2, vs2, d2, ds2, p2, q2, rfl, rfl, rfl, h2, r2⟩ := trodAll_cons r1
  obtain ⟨rfl, rfl, rfl⟩ := trodAll_nil r2
  obtain rfl : args = #[v0, v1, v2] := by cases args; simp_all
  obtain ⟨rfl, rfl⟩ := trodVars_none hV
  have h0k := h0
  have h1k := h1
  have h2k := h2
  have hlt0 : ∀ x ∈ p0, x.block < W.heap.size := fun x hx => by have := hW'.lt x (by simp [hx]); simpa using this
  have hlt1 : ∀ x ∈ p1, x.block < W.heap.size := fun x hx => by have := hW'.lt x (by simp [hx]); simpa using this
  have hlt2 : ∀ x ∈ p2, x.block < W.heap.size := fun x hx => by have := hW'.lt x (by simp [hx]); simpa using this
  obtain ⟨l, lA, ln, lc, rfl, hl⟩ := open_Ints Tryd.underlying22 Tryd.underlying23 (by kernel_rfl) (by kernel_rfl) (hval 0 22 v0 rfl rfl) h0 hsz (j := 0) rfl rfl
  obtain ⟨a, rfl, ha⟩ := open_U64 Tryd.underlying23 (hval 1 23 v1 rfl rfl) h1
  obtain ⟨b, rfl, hb⟩ := open_U64 Tryd.underlying23 (hval 2 23 v2 rfl rfl) h2
  clear hA0 hval0
  simp only [List.append_nil] at hW'
  refine (StakeMore_walk lA ln lc l hl a ha b hb (w := W) (hT := table hL)).mono fun e W' ⟨he, hg⟩ => ?_
  subst he
  exact ⟨_, rfl, post_law (s := Rows.stakeMoreSpec) (pa := p0 ++ (p1 ++ (p2 ++ []))) (pv := []) hW' (fun _ _ _ => (trodAll_cons_mk (shut_bool Tryd.underlying4 _) trodAll_mk0))
    (trodAll_cons_mk (Below.trod laidOut (by kernel_rfl) (of_decide_eq_true (by kernel_rfl)) h0k hg.out hlt0) (trodAll_cons_mk (Below.trod laidOut (by kernel_rfl) (of_decide_eq_true (by kernel_rfl)) h1k hg.out hlt1) (trodAll_cons_mk (Below.trod laidOut (by kernel_rfl) (of_decide_eq_true (by kernel_rfl)) h2k hg.out hlt2) trodAll_mk0))) rfl (by simp) hg⟩
theorem StakeMore_holds : Rows.StakeMoreSaid :=
  OpenClaim.holds_of_cond 6 Tryd.f6 rfl rfl rfl rfl rfl rfl rfl ⟨rfl, rfl, rfl, rfl, rfl⟩ rfl rfl rfl rfl rfl (by kernel_rfl) Tryd.func6 (by kernel_rfl)
    (of_decide_eq_true (by kernel_rfl)) (by unfold Func.isWrapper; first | (rw [if_pos (by decide +kernel)]; kernel_rfl) | (rw [if_neg (by decide +kernel)]; exact ⟨rfl, rfl⟩))
    (fun os started H enc _ F => by rw [OpenClaim.pre_eq_preRow]; exact StakeMore_lifted os started H enc F)
theorem StakeMore_plain (f : FuncId) (fn : Func) (hf : Tryd.pinned.checked.prog.funcNamed "areopagus/areopaguslaw11.StakeMore" = some f) (hfn : Tryd.pinned.checked.prog.funcs[f]? = some fn) :
    false = Tryd.pinned.checked.prog.looks [] ∧ ∀ (j : Nat) t, fn.params[j]? = some t → Tryd.pinned.checked.prog.wantsStandIn t = false := by
  obtain rfl : f = 6 := Option.some.inj ((show Tryd.prog.funcNamed "areopagus/areopaguslaw11.StakeMore" = some 6 by kernel_rfl).symm.trans hf) |>.symm
  obtain rfl : fn = Tryd.f6 := (Option.some.inj (Tryd.func6.symm.trans hfn)).symm
  refine ⟨by kernel_rfl, fun j t ht => ?_⟩
  rw [Tryd.params6] at ht
  have hm : t ∈ [22, 23, 23] := by simpa using Array.mem_of_getElem? ht
  have hall : ([22, 23, 23].all fun u => !Tryd.prog.wantsStandIn u) = true := by kernel_rfl
  exact (show Tryd.prog.wantsStandIn t = false by simpa using List.all_eq_true.1 hall t hm)
theorem StakeMore_card : Rows.StakeMoreCardSaid :=
  Claim7.holds_tied_plain_at .later [] _ _ _ _ StakeMore_holds (fun _ h => by cases h) (by kernel_rfl) (fun _ h => by cases h) stakeMore_row_tie rfl ⟨rfl, rfl⟩ (by kernel_rfl) rfl StakeMore_plain (by kernel_rfl)
#print axioms StakeMore_card
end Go.Proofs.YtchfaiogiamfbaaDoor
