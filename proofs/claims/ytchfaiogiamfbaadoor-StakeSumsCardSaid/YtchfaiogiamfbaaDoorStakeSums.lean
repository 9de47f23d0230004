/- StakeSums: what some have is what each of them has, together; for every input. The library's table of trailing zeros is the one condition; it is tied to the program's text. -/
import Derived.Test.YtchfaiogiamfbaaDoorStakeLaw
import Derived.SevenTiedAt
namespace Go.Proofs.YtchfaiogiamfbaaDoor
open Go.RowKit Go.WideShapes Go.ChangeShapes Go.ChangeAt
set_option linter.unusedVariables false
set_option linter.unusedSimpArgs false


namespace Stake
/-- What those of the first places have that are there. -/
def partS (l : List Int) (ks : List Nat) : Nat := (ks.map (fun k => if k < l.length then fOf l k else 0)).sum
theorem partS_succ (l : List Int) {ks : List Nat} {i : Nat} (hi : i < ks.length) : partS l (ks.take (i + 1)) = partS l (ks.take i) + if ks[i] < l.length then fOf l ks[i] else 0 := by
  rw [take_succ' hi]
  unfold partS
  rw [List.map_append, List.sum_append]
  simp
theorem partS_le {l : List Int} (h : overL l = false) (ks : List Nat) : partS l ks ≤ ks.length * 1099511627776 := by
  have h1 := sumL_le h ks
  have : partS l ks ≤ sumL l ks := by
    clear h1
    induction ks with
    | nil => simp [partS, sumL]
    | cons k ks ih =>
      simp only [partS, sumL, List.map_cons, List.sum_cons] at *
      split <;> simp [fOf] at * <;> omega
  omega
theorem sumB_past (l : List Int) (m : Nat) : ∀ k, sumB (fun v => if v < l.length then fOf l v else 0) m (l.length + k) = sumB (fOf l) m l.length := by
  intro k
  induction k with
  | zero =>
    unfold sumB
    congr 1
    apply List.map_congr_left
    intro v hv
    have := List.mem_range.1 hv
    simp [show v < l.length by omega]
  | succ k ih =>
    rw [← Nat.add_assoc, sumB_succ, ih]
    simp
    intro _ h
    omega
theorem partS_all {l : List Int} (h : mayV l = true) (m : Nat) : partS l (bitsL m) = ofV l m := by
  have h8 := (mayV_iff.1 h).2.1
  rw [ofV_eq h]
  unfold partS
  rw [sumB_bits]
  have := sumB_past l m (64 - l.length)
  rw [show l.length + (64 - l.length) = 64 by omega] at this
  exact this
end Stake
theorem who_nth {m i : Nat} (hi : i < (Stake.bitsL m).length) : nth (whoV m) i = ((Stake.bitsL m)[i] : Int) := by
  unfold whoV nth
  simp [hi]

set_option maxHeartbeats 4000000 in
theorem StakeSums_walk {w : World} (A : Option Addr) (n c : Nat) (l : List Int) (h : Ints w .u64 A n c l) (m : Nat) (hm : m < 18446744073709551616) (hT : Tab w) :
    Calls Tryd.prog 7 #[.slice A n c, .int .u64 m] w fun e w' => e = .returned (.bool true) ∧ Ext w w' := by
  have HM := Lib.hid (fun W (k : Ext w W) => smay_any A n c l W (h.ext k))
  have HO := Lib.hid (fun m (hm : m < 18446744073709551616) W (k : Ext w W) => of_any A n c l m hm W (h.ext k) (hT.ext k))
  have HTo := Lib.hid (fun W (k : Ext w W) => total_any A n c l W (h.ext k) (hT.ext k))
  have HMo := Lib.hid (fun m (hm : m < 18446744073709551616) b (e : Stake.mostV l m = b) W (k : Ext w W) => most_is A n c l m hm b e W (h.ext k) (hT.ext k))
  have HSo := Lib.hid (fun m (hm : m < 18446744073709551616) b (e : Stake.someV l m = b) W (k : Ext w W) => some_is A n c l m hm b e W (h.ext k) (hT.ext k))
  have HAw := Lib.hid (fun W (k : Ext w W) => awake_any W (hT.ext k))
  have HW := Lib.hid (fun m (hm : m < 18446744073709551616) W (k : Ext w W) => who_any m hm W (hT.ext k))
  have hlen := h.len
  have hroom := h.room
  have HB := Lib.hid (fun W (k : Ext w W) => h.ext k)
  clear h hT
  cases hmay : Stake.mayV l with
  | false =>
    have e1 := Stake.ofV_no hmay m
    have HO1 := Lib.hid (fun W k => HO.out m hm W k)
    rw [e1] at HO1
    rw [hmay] at HM
    go_enter Tryd.func7, Tryd.ntmps7
    go_wp2_with fail
    refine (HAw.out _ ((by repeat (first | assumption | exact Ext.refl _ | refine Ext.alloc ?_ _ | refine Ext.drew ?_ | refine Ext.drewN ?_ _ | refine Ext.setCell ?_ (by first | (simp; done) | omega | (simp; omega)) _ | refine Ext.trans (by assumption) ?_)))).mono ?_
    rintro e w1 ⟨rfl, hx1⟩
    have k1 : Ext w w1 := Ext.trans ((by repeat (first | assumption | exact Ext.refl _ | refine Ext.alloc ?_ _ | refine Ext.drew ?_ | refine Ext.drewN ?_ _ | refine Ext.setCell ?_ (by first | (simp; done) | omega | (simp; omega)) _ | refine Ext.trans (by assumption) ?_))) hx1
    go_wp2_with fail
    refine (HW.out m hm _ ((by repeat (first | assumption | exact Ext.refl _ | refine Ext.alloc ?_ _ | refine Ext.drew ?_ | refine Ext.drewN ?_ _ | refine Ext.setCell ?_ (by first | (simp; done) | omega | (simp; omega)) _ | refine Ext.trans (by assumption) ?_)))).mono ?_
    rintro e w2 ⟨v2, rfl, ⟨A2, n2, c2, rfl, I2⟩, hx2⟩
    go_wp2_with fail
    refine (HM.out _ ((by repeat (first | assumption | exact Ext.refl _ | refine Ext.alloc ?_ _ | refine Ext.drew ?_ | refine Ext.drewN ?_ _ | refine Ext.setCell ?_ (by first | (simp; done) | omega | (simp; omega)) _ | refine Ext.trans (by assumption) ?_)))).mono ?_
    rintro e w' ⟨rfl, rfl⟩
    go_wp2_with fail
    refine (HO1.out _ ((by repeat (first | assumption | exact Ext.refl _ | refine Ext.alloc ?_ _ | refine Ext.drew ?_ | refine Ext.drewN ?_ _ | refine Ext.setCell ?_ (by first | (simp; done) | omega | (simp; omega)) _ | refine Ext.trans (by assumption) ?_)))).mono ?_
    rintro e w3 ⟨rfl, hx3⟩
    have k3 : Ext w w3 := Ext.trans ((by repeat (first | assumption | exact Ext.refl _ | refine Ext.alloc ?_ _ | refine Ext.drew ?_ | refine Ext.drewN ?_ _ | refine Ext.setCell ?_ (by first | (simp; done) | omega | (simp; omega)) _ | refine Ext.trans (by assumption) ?_))) hx3
    go_wp2
    go_ret
    exact ⟨rfl, (by repeat (first | assumption | exact Ext.refl _ | refine Ext.alloc ?_ _ | refine Ext.drew ?_ | refine Ext.drewN ?_ _ | refine Ext.setCell ?_ (by first | (simp; done) | omega | (simp; omega)) _ | refine Ext.trans (by assumption) ?_))⟩
  | true =>
    have hall := Stake.partS_all hmay m
    have hov := (Stake.mayV_iff.1 hmay).2.2
    have hbl := Stake.bitsL_len m
    rw [hmay] at HM
    go_enter Tryd.func7, Tryd.ntmps7
    go_wp2_with fail
    refine (HAw.out _ ((by repeat (first | assumption | exact Ext.refl _ | refine Ext.alloc ?_ _ | refine Ext.drew ?_ | refine Ext.drewN ?_ _ | refine Ext.setCell ?_ (by first | (simp; done) | omega | (simp; omega)) _ | refine Ext.trans (by assumption) ?_)))).mono ?_
    rintro e w1 ⟨rfl, hx1⟩
    have k1 : Ext w w1 := Ext.trans ((by repeat (first | assumption | exact Ext.refl _ | refine Ext.alloc ?_ _ | refine Ext.drew ?_ | refine Ext.drewN ?_ _ | refine Ext.setCell ?_ (by first | (simp; done) | omega | (simp; omega)) _ | refine Ext.trans (by assumption) ?_))) hx1
    go_wp2_with fail
    refine (HW.out m hm _ ((by repeat (first | assumption | exact Ext.refl _ | refine Ext.alloc ?_ _ | refine Ext.drew ?_ | refine Ext.drewN ?_ _ | refine Ext.setCell ?_ (by first | (simp; done) | omega | (simp; omega)) _ | refine Ext.trans (by assumption) ?_)))).mono ?_
    rintro e w2 ⟨v2, rfl, ⟨A2, n2, c2, rfl, I2⟩, hx2⟩
    have k2 : Ext w w2 := Ext.trans ((by repeat (first | assumption | exact Ext.refl _ | refine Ext.alloc ?_ _ | refine Ext.drew ?_ | refine Ext.drewN ?_ _ | refine Ext.setCell ?_ (by first | (simp; done) | omega | (simp; omega)) _ | refine Ext.trans (by assumption) ?_))) hx2
    have hn2 : (Stake.bitsL m).length = n2 := by rw [← I2.len]; simp [whoV]
    subst hn2
    have HC := Lib.hid I2.view
    clear I2
    go_wp2_with fail
    refine (HM.out _ ((by repeat (first | assumption | exact Ext.refl _ | refine Ext.alloc ?_ _ | refine Ext.drew ?_ | refine Ext.drewN ?_ _ | refine Ext.setCell ?_ (by first | (simp; done) | omega | (simp; omega)) _ | refine Ext.trans (by assumption) ?_)))).mono ?_
    rintro e w3 ⟨rfl, rfl⟩
    go_wp2
    go_loopw [7, 8] (fun s i wr => ∃ k : Nat, k ≤ (Stake.bitsL m).length ∧ i = .int .i64 k ∧ s = .int .u64 (Stake.partS l ((Stake.bitsL m).take k) : Nat) ∧ wr = w3) (fun _ i _ => (Stake.bitsL m).length - (intOf i).toNat)
    case atStart => exact ⟨0, Nat.zero_le _, rfl, rfl, rfl⟩
    case round =>
      obtain ⟨k, hk, rfl, rfl, rfl⟩ := hrel
      by_cases hlt : k < (Stake.bitsL m).length
      · rcases HC.out with h0 | ⟨b, off, rfl, hcs⟩
        · omega
        have dx := hcs k hlt
        clear hcs
        rw [who_nth hlt] at dx
        have hbd : (Stake.bitsL m)[k] < 64 := Stake.bitsL_lt (List.getElem_mem hlt)
        have hsu := Stake.partS_succ l hlt
        have hle := Stake.partS_le hov ((Stake.bitsL m).take k)
        have htl : ((Stake.bitsL m).take k).length ≤ 64 := by simp; omega
        obtain ⟨x, hx⟩ : ∃ x, (Stake.bitsL m)[k] = x := ⟨_, rfl⟩
        rw [hx] at dx hbd hsu
        have x0 : (0 : Int) ≤ x := by omega
        by_cases hxl : x < l.length
        · have hI := HB.out _ k2
          have hu := hI.u64 x
          rcases hI.view with h0 | ⟨b', off', rfl, hcs⟩
          · omega
          have dy := hcs x (by omega)
          clear hcs
          have hyb : (nth l x).toNat ≤ 1099511627776 := by
            have := Stake.sumL_le hov [x]
            simpa [Stake.sumL] using this
          rw [if_pos hxl] at hsu
          unfold Stake.fOf at hsu
          obtain ⟨y, hy⟩ : ∃ y : Nat, nth l x = (y : Int) := ⟨(nth l x).toNat, by omega⟩
          rw [hy] at dy hyb hsu
          have hadd : IntKind.u64.wrap ((Stake.partS l ((Stake.bitsL m).take k) : Int) + (y : Int)) = ((Stake.partS l ((Stake.bitsL m).take (k + 1)) : Nat) : Int) := by
            rw [IntKind.wrap_u64, hsu]; simp at hyb ⊢; omega
          have g1 : (x : Int) < n := by omega
          clear hu hI hy hyb hsu hle htl
          go_wp2
          go_roundw
          case rel => exact ⟨k + 1, by omega, by go_num, by first | rfl | simp, by first | rfl | trivial⟩
          case measure => simp [intOf]; omega
        · rw [if_neg hxl] at hsu
          have hsu' : Stake.partS l ((Stake.bitsL m).take (k + 1)) = Stake.partS l ((Stake.bitsL m).take k) := by rw [hsu]; simp
          have HS := Lib.hid hsu'
          have g1 : ¬ (x : Int) < n := by omega
          clear hsu hsu' hle htl
          go_wp2
          go_roundw
          case rel => exact ⟨k + 1, by omega, by go_num, by rw [HS.out], by first | rfl | trivial⟩
          case measure => simp [intOf]; omega
      · have e : k = (Stake.bitsL m).length := by omega
        subst e
        rw [List.take_length, hall]
        go_wp2_with fail
        refine (HO.out m hm _ ((by repeat (first | assumption | exact Ext.refl _ | refine Ext.alloc ?_ _ | refine Ext.drew ?_ | refine Ext.drewN ?_ _ | refine Ext.setCell ?_ (by first | (simp; done) | omega | (simp; omega)) _ | refine Ext.trans (by assumption) ?_)))).mono ?_
        rintro e w4 ⟨rfl, hx4⟩
        have k4 : Ext w w4 := Ext.trans ((by repeat (first | assumption | exact Ext.refl _ | refine Ext.alloc ?_ _ | refine Ext.drew ?_ | refine Ext.drewN ?_ _ | refine Ext.setCell ?_ (by first | (simp; done) | omega | (simp; omega)) _ | refine Ext.trans (by assumption) ?_))) hx4
        go_wp2
        go_ret
        exact ⟨rfl, (by repeat (first | assumption | exact Ext.refl _ | refine Ext.alloc ?_ _ | refine Ext.drew ?_ | refine Ext.drewN ?_ _ | refine Ext.setCell ?_ (by first | (simp; done) | omega | (simp; omega)) _ | refine Ext.trans (by assumption) ?_))⟩
theorem StakeSums_reads (os : Os) {H : Type} (enc : TypeId × Value → H) : ∃ places, DataW.whole enc Tryd.prog ((laidWorld os).forCall (fun _ _ => 0) ⟨#[], #[.slice none 0 0, .int .u64 0], []⟩).memory Tryd.f7.params.toList Rows.stakeSumsSpec.vars false #[.slice none 0 0, .int .u64 0].toList 8 = some ([.nil, .lit (.int .u64 0)], [], places) :=
  ⟨[], by kernel_rfl⟩
theorem StakeSums_met (os : Os) : laidMet Tryd.prog Rows.stakeSumsRow.laid ((laidWorld os).forCall (fun _ _ => 0) ⟨#[], #[.slice none 0 0, .int .u64 0], []⟩).memory :=
  laidMet_of_run' 8 (by kernel_rfl) (by kernel_rfl)
set_option maxRecDepth 100000 in
theorem StakeSums_lifted (os : Os) (started : os.Started) (H : Type) (enc : TypeId × Value → H) (F : Stop.Interp) :
    ReturnsInHanded {} Tryd.checked os 7 .any ((OpenSpec.ofChange Rows.stakeSumsSpec).preRow enc Tryd.prog Tryd.f7 Rows.stakeSumsRow.domain false Rows.stakeSumsRow.laid) (((OpenSpec.ofChange Rows.stakeSumsSpec).at F).post enc Tryd.prog Tryd.f7 false true false false) := by
  obtain ⟨places, hx⟩ := StakeSums_reads os enc
  refine returnsInHanded_of_row (C := Tryd.checked) (s := OpenSpec.ofChange Rows.stakeSumsSpec) own started (by kernel_rfl) Tryd.func7
    (witness_row_at (enc := enc) (C := Tryd.checked) false (laidWorld os) #[.slice none 0 0, .int .u64 0] rfl (by kernel_rfl) (by kernel_rfl) (by kernel_rfl)
      (OpenSpec.preRow_of_cond 8 hx (by kernel_rfl) (fun k hk => by cases hk) (by kernel_rfl) (StakeSums_met os))) ?_
  intro W base args ds gs before hval0 hW _hcnd _hcond hsz0 hL _ _
  have hval : ∀ (j : Nat) t v, Tryd.f7.params[j]? = some t → args[j]? = some v → Value.okWide Tryd.prog W .any base t v := hval0
  have hsz : (DataW.weightsEach Tryd.prog (Tryd.f7.params.toList ++ Rows.stakeSumsSpec.plain.varTypes Tryd.prog) (ds ++ gs)).all (· ≤ reachBytes) = true := hsz0
  have hW' : DataW.Whole enc Tryd.prog Tryd.f7.params.toList Rows.stakeSumsSpec.vars false W args.toList ds gs before := hW
  obtain ⟨p, q, hA0, hV, rfl, hfz, hnd⟩ := hW'
  have hW' : DataW.Whole enc Tryd.prog Tryd.f7.params.toList Rows.stakeSumsSpec.vars false W args.toList ds gs _ := hW
  have hA : DataW.TrodAll enc Tryd.prog W 0 (fun _ => true) true Tryd.f7.params.toList args.toList ds p := hA0
  rw [Tryd.params7] at hA hval hsz
  obtain ⟨v0, vs0, d0, ds0, p0, q0, hargs, rfl, rfl, h0, r0⟩ := trodAll_cons hA
  obtain ⟨v1, vs1, d1, ds1, p1, q1, rfl, rfl, rfl, h1, r1⟩ := trodAll_cons r0
  obtain ⟨rfl, rfl, rfl⟩ := trodAll_nil r1
  obtain rfl : args = #[v0, v1] := by cases args; simp_all
  obtain ⟨rfl, rfl⟩ := trodVars_none hV
  have h0k := h0
  have h1k := h1
  have hlt0 : ∀ x ∈ p0, x.block < W.heap.size := fun x hx => by have := hW'.lt x (by simp [hx]); simpa using this
  have hlt1 : ∀ x ∈ p1, x.block < W.heap.size := fun x hx => by have := hW'.lt x (by simp [hx]); simpa using this
  obtain ⟨l, lA, ln, lc, rfl, hl⟩ := open_Ints Tryd.underlying22 Tryd.underlying23 (by kernel_rfl) (by kernel_rfl) (hval 0 22 v0 rfl rfl) h0 hsz (j := 0) rfl rfl
  obtain ⟨m, rfl, hm⟩ := open_U64 Tryd.underlying23 (hval 1 23 v1 rfl rfl) h1
  clear hA0 hval0
  simp only [List.append_nil] at hW'
  refine (StakeSums_walk lA ln lc l hl m hm (w := W) (hT := table hL)).mono fun e W' ⟨he, hg⟩ => ?_
  subst he
  exact ⟨_, rfl, post_law (s := Rows.stakeSumsSpec) (pa := p0 ++ (p1 ++ [])) (pv := []) hW' (fun _ _ _ => (trodAll_cons_mk (shut_bool Tryd.underlying4 _) trodAll_mk0))
    (trodAll_cons_mk (Below.trod laidOut (by kernel_rfl) (of_decide_eq_true (by kernel_rfl)) h0k hg.out hlt0) (trodAll_cons_mk (Below.trod laidOut (by kernel_rfl) (of_decide_eq_true (by kernel_rfl)) h1k hg.out hlt1) trodAll_mk0)) rfl (by simp) hg⟩
theorem StakeSums_holds : Rows.StakeSumsSaid :=
  OpenClaim.holds_of_cond 7 Tryd.f7 rfl rfl rfl rfl rfl rfl rfl ⟨rfl, rfl, rfl, rfl, rfl⟩ rfl rfl rfl rfl rfl (by kernel_rfl) Tryd.func7 (by kernel_rfl)
    (of_decide_eq_true (by kernel_rfl)) (by unfold Func.isWrapper; first | (rw [if_pos (by decide +kernel)]; kernel_rfl) | (rw [if_neg (by decide +kernel)]; exact ⟨rfl, rfl⟩))
    (fun os started H enc _ F => by rw [OpenClaim.pre_eq_preRow]; exact StakeSums_lifted os started H enc F)
theorem StakeSums_plain (f : FuncId) (fn : Func) (hf : Tryd.pinned.checked.prog.funcNamed "areopagus/areopaguslaw11.StakeSums" = some f) (hfn : Tryd.pinned.checked.prog.funcs[f]? = some fn) :
    false = Tryd.pinned.checked.prog.looks [] ∧ ∀ (j : Nat) t, fn.params[j]? = some t → Tryd.pinned.checked.prog.wantsStandIn t = false := by
  obtain rfl : f = 7 := Option.some.inj ((show Tryd.prog.funcNamed "areopagus/areopaguslaw11.StakeSums" = some 7 by kernel_rfl).symm.trans hf) |>.symm
  obtain rfl : fn = Tryd.f7 := (Option.some.inj (Tryd.func7.symm.trans hfn)).symm
  refine ⟨by kernel_rfl, fun j t ht => ?_⟩
  rw [Tryd.params7] at ht
  have hm : t ∈ [22, 23] := by simpa using Array.mem_of_getElem? ht
  have hall : ([22, 23].all fun u => !Tryd.prog.wantsStandIn u) = true := by kernel_rfl
  exact (show Tryd.prog.wantsStandIn t = false by simpa using List.all_eq_true.1 hall t hm)
theorem StakeSums_card : Rows.StakeSumsCardSaid :=
  Claim7.holds_tied_plain_at .later [] _ _ _ _ StakeSums_holds (fun _ h => by cases h) (by kernel_rfl) (fun _ h => by cases h) stakeSums_row_tie rfl ⟨rfl, rfl⟩ (by kernel_rfl) rfl StakeSums_plain (by kernel_rfl)
#print axioms StakeSums_card
end Go.Proofs.YtchfaiogiamfbaaDoor
