/- The document's May of layers 12 and 11 (beside layer 14). -/
/- The document's answer of layer 12: May, New. -/
import Derived.Test.YtjhhfininnlkfaaVotePut
import Derived.Test.YtjhhfininnlkfaaStakeB
import Derived.Test.YtjhhfininnlkfaaLatOpen
import Derived.Deep.Cut
namespace Go.Proofs.Ytjhhfininnlkfaa
open Go.RowKit Go.WideShapes Go.ChangeShapes
set_option linter.unusedVariables false
set_option linter.unusedSimpArgs false








theorem wpList_load_want {P : Program} {ops : Array Oper} {rest : List Oper} {op : Oper} {a : Act} {w : World} {Q : Exit → Act → World → Prop} (hw : Region.wanted op (yielded ops a.tmps) = true) (ty : TypeId) (x : Operand) (ho : op.op = .load ty x)
    (b o : Nat) (hx : a.eval x = .pointer (some ⟨b, o, none⟩)) (cs : List Value) (d : TypeDesc) (hc : w.rangeAt b o cs)
    (hu : P.underlying ty = some d) (hd : d.isRow = true) (hi : (P.info? ty).map (·.size) = some cs.length)
    (h : wpList P ops Q rest (a.put op.dst (.agg cs.toArray)) w) : wpList P ops Q (op :: rest) a w :=
  BigFrame.wpList_want hw fun _ hK => wp_load_mid ty x ho b o hx cs d hc hu hd hi (hK _ _ h)
/-- The walk stands at the load of the vote. -/
theorem wpList_at43 {P : Program} {ops : Array Oper} {rest : List Oper} {t : TypeId} {p : String} {af : Array Edge} {g : Option (Nat × Bool)} {a : Act} {w : World} {Q : Exit → Act → World → Prop} (h : wpList P ops Q ({ dst := some 43, op := .load 40 (.tmp 42), type := t, pos := p, after := af, guard := g } :: rest) a w) : wpList P ops Q ({ dst := some 43, op := .load 40 (.tmp 42), type := t, pos := p, after := af, guard := g } :: rest) a w := h
def okAt (LS : List Lat) (out i : Nat) : Prop := (i < LS.length → badAt LS out i = false) ∧ (LS.length ≤ i → out.testBit i = false)
theorem may_bad2 {LS : List Lat} {out i : Nat} (h : ¬ okAt LS out i) : mayV LS out = false := by
  refine Bool.eq_false_iff.2 (fun hm => h ?_)
  obtain ⟨_, _, h3, h4⟩ := mayV_iff.1 hm
  exact ⟨fun hi => h4 i hi, fun hi => Nat.testBit_lt_two_pow (Nat.lt_of_lt_of_le h3 (Nat.pow_le_pow_right (by omega) hi))⟩
theorem may_end2 {LS : List Lat} {out : Nat} (ho : out < 18446744073709551616) (h : ∀ i, i < 64 → okAt LS out i) : mayV LS out = (decide (1 ≤ LS.length) && decide (LS.length ≤ 8)) := by
  by_cases h0 : 1 ≤ LS.length
  · by_cases h8 : LS.length ≤ 8
    · rw [decide_eq_true h0, decide_eq_true h8]
      refine mayV_iff.2 ⟨h0, h8, Nat.lt_pow_two_of_testBit out (fun i hi => ?_), fun i hi => (h i (by omega)).1 hi⟩
      by_cases h64 : i < 64
      · exact (h i h64).2 hi
      · exact Nat.testBit_lt_two_pow (Nat.lt_of_lt_of_le ho (by have := Nat.pow_le_pow_right (n := 2) (by omega) (show 64 ≤ i by omega); omega))
    · rw [decide_eq_false h8, Bool.and_false]
      refine Bool.eq_false_iff.2 (fun hm => h8 (mayV_iff.1 hm).2.1)
  · rw [decide_eq_false h0, Bool.false_and]
    refine Bool.eq_false_iff.2 (fun hm => h0 (mayV_iff.1 hm).1)
set_option maxHeartbeats 2000000 in
theorem rvmay_any (A : Option Addr) (n c : Nat) (out : Nat) (ho : out < 18446744073709551616) (LS : List Lat) (w : World) (h : VL w A n c LS) :
    Calls Try.prog 36 #[.agg #[.slice A n c, .int .u64 out]] w fun e w' => e = .returned (.bool (mayV LS out)) ∧ Ext w w' := by
  have hlen := h.len
  have HL := Lib.hid hlen
  have HV := Lib.hid (fun W (k : Ext w W) => h.ext k)
  have HH := Lib.hid (fun (k : Nat) (hk : k < 64) W => (by have k0 := refHas_any out ho (k : Int) (by omega) (by omega) W; rw [Stake.hasV_nat out hk] at k0; exact k0 : Calls Try.prog 49 #[.int .u64 out, .int .i64 k] W fun e w' => e = .returned (.bool (out.testBit k)) ∧ w' = W))
  have hroom := h.row.room
  clear h hlen
  go_enter Try.func36, Try.ntmps36
  go_wp2
  obtain ⟨w1, hw1⟩ : ∃ w1, (w.alloc (.cells #[.slice A n c, .int .u64 out] 28)) = w1 := ⟨_, rfl⟩
  have p0 : w1.cell? ⟨w.heap.size, 0, none⟩ = some (.slice A n c) := by rw [← hw1]; simp
  have p1 : w1.cell? ⟨w.heap.size, 1, none⟩ = some (.int .u64 out) := by rw [← hw1]; simp
  have k1 : Ext w w1 := by rw [← hw1]; exact (Ext.refl w).alloc _
  rw [hw1]
  have P0 := Lib.hid p0
  have P1 := Lib.hid p1
  clear hw1 p0 p1
  go_loopw [2, 3, 4] (fun _ i _ wr => ∃ k : Nat, k ≤ 64 ∧ i = .int .i64 k ∧ (∀ j, j < k → okAt LS out j) ∧ Ext w1 wr) (fun _ i _ _ => 64 - (intOf i).toNat)
  case atStart => exact ⟨0, Nat.zero_le _, rfl, (fun j hj => absurd hj (Nat.not_lt_zero j)), Ext.refl _⟩
  case round =>
    obtain ⟨k, hk, rfl, hno, hx⟩ := hrel
    have HNO := Lib.hid hno
    clear hno
    have p0 := hx.cell P0.out
    have p1 := hx.cell P1.out
    by_cases hlt : k < 64
    · by_cases hkn : k < n
      · obtain ⟨b, off, rfl, hr, hok⟩ := (HV.out wr (k1.trans hx)).at' hkn
        have hbad : Hid (badAt LS out k = ((!(LS.getD k Lat.none).has || out.testBit k) && !((LS.getD k Lat.none).eqb Lat.none))) := by show badAt LS out k = _; rfl
        generalize LS.getD k Lat.none = x at hr hok hbad
        have hi34 : (Try.prog.info? 40).map (·.size) = some x.cells.length := by rw [Lat.len hok]; kernel_rfl
        have d0 := hr 0 (.bool x.has) rfl
        simp only [Nat.add_zero] at d0
        have he : ∀ W, (binOp .neq 40 (.agg x.cells.toArray) (.agg #[.bool false, .int .u8 0, .int .u8 0, .int .u8 0, .int .u8 0, .int .u8 0, .int .u8 0, .int .u8 0, .int .u8 0, .int .u8 0, .int .u8 0, .int .u8 0, .int .u8 0, .int .u8 0, .int .u8 0, .int .u8 0, .int .u8 0, .int .u8 0, .int .u8 0, .int .u8 0, .int .u8 0, .int .u8 0, .int .u8 0, .int .u8 0, .int .u8 0, .int .u8 0, .int .u8 0, .int .u8 0, .int .u8 0, .int .u8 0, .int .u8 0, .int .u8 0, .int .u8 0, .int .u64 0])).run Try.prog W = .ok (.bool (!(x.eqb Lat.none))) W := fun W => Lat.neq hok Lat.none_ok (b := x.eqb Lat.none) Lat.eqb_iff W
        have g1 : (k : Int) < n := by omega
        have hcase : Hid (¬ okAt LS out k → mayV LS out = false) := may_bad2
        generalize x.has = hs at *
        generalize x.eqb Lat.none = q at *
        cases hb : out.testBit k with
        | false =>
          rw [hb] at hbad
          have HB := Lib.hid hb
          cases hs with
          | true =>
            have HOKK : Hid (okAt LS out k) := ⟨fun _ => by rw [hbad.out]; rfl, fun hi => HB.out⟩
            have HNO' : Hid (∀ j, j < k + 1 → okAt LS out j) := fun j hj => by
              rcases Nat.lt_or_eq_of_le (Nat.lt_succ_iff.1 hj) with h | rfl
              · exact HNO.out j h
              · exact HOKK.out
            clear he
            go_wp2_with fail
            refine (HH.out k (by omega) _).mono ?_
            rintro e w2 ⟨rfl, rfl⟩
            rw [HB.out]
            clear hb
            go_upto_if 46 with ((with_reducible (refine wpList_at43 ?_)); refine wpList_load_want (by kernel_rfl) 40 _ rfl _ _ rfl x.cells _ hr Try.underlying40 rfl hi34 ?_)
            go_wp2
            go_roundw
            case rel => first | exact ⟨k + 1, by omega, by go_num, HNO'.out, hx⟩ | (refine ⟨_, ⟨k + 1, by omega, ?_, HNO'.out, hx⟩, rfl⟩; go_num) | (refine ⟨_, _, ⟨k + 1, by omega, ?_, HNO'.out, hx⟩, rfl, rfl⟩; go_num) | (refine ⟨_, _, _, ⟨k + 1, by omega, ?_, HNO'.out, hx⟩, rfl, rfl, rfl⟩; go_num)
            case measure => simp [intOf]; omega
          | false =>
            cases q with
            | true =>
              have HOKK : Hid (okAt LS out k) := ⟨fun _ => by rw [hbad.out]; rfl, fun hi => HB.out⟩
              have HNO' : Hid (∀ j, j < k + 1 → okAt LS out j) := fun j hj => by
                rcases Nat.lt_or_eq_of_le (Nat.lt_succ_iff.1 hj) with h | rfl
                · exact HNO.out j h
                · exact HOKK.out
              go_wp2_with fail
              refine (HH.out k (by omega) _).mono ?_
              rintro e w2 ⟨rfl, rfl⟩
              rw [HB.out]
              clear hb
              go_upto_if 46 with ((with_reducible (refine wpList_at43 ?_)); refine wpList_load_want (by kernel_rfl) 40 _ rfl _ _ rfl x.cells _ hr Try.underlying40 rfl hi34 ?_)
              go_wp2
              go_roundw
              case rel => first | exact ⟨k + 1, by omega, by go_num, HNO'.out, hx⟩ | (refine ⟨_, ⟨k + 1, by omega, ?_, HNO'.out, hx⟩, rfl⟩; go_num) | (refine ⟨_, _, ⟨k + 1, by omega, ?_, HNO'.out, hx⟩, rfl, rfl⟩; go_num) | (refine ⟨_, _, _, ⟨k + 1, by omega, ?_, HNO'.out, hx⟩, rfl, rfl, rfl⟩; go_num)
              case measure => simp [intOf]; omega
            | false =>
              have HF : Hid (mayV LS out = false) := hcase.out (fun hk2 => by have := hk2.1 (by rw [HL.out]; exact hkn); rw [hbad.out] at this; cases this)
              go_wp2_with fail
              refine (HH.out k (by omega) _).mono ?_
              rintro e w2 ⟨rfl, rfl⟩
              rw [HB.out]
              clear hb
              go_upto_if 46 with ((with_reducible (refine wpList_at43 ?_)); refine wpList_load_want (by kernel_rfl) 40 _ rfl _ _ rfl x.cells _ hr Try.underlying40 rfl hi34 ?_)
              go_wp2
              go_ret
              exact ⟨by rw [HF.out]; rfl, k1.trans hx⟩
        | true =>
          rw [hb] at hbad
          have HB := Lib.hid hb
          cases q with
          | true =>
            have HOKK : Hid (okAt LS out k) := ⟨fun _ => by rw [hbad.out]; simp, fun hi => by rw [HL.out] at hi; omega⟩
            have HNO' : Hid (∀ j, j < k + 1 → okAt LS out j) := fun j hj => by
              rcases Nat.lt_or_eq_of_le (Nat.lt_succ_iff.1 hj) with h | rfl
              · exact HNO.out j h
              · exact HOKK.out
            go_wp2_with fail
            refine (HH.out k (by omega) _).mono ?_
            rintro e w2 ⟨rfl, rfl⟩
            rw [HB.out]
            clear hb
            go_upto_if 46 with ((with_reducible (refine wpList_at43 ?_)); refine wpList_load_want (by kernel_rfl) 40 _ rfl _ _ rfl x.cells _ hr Try.underlying40 rfl hi34 ?_)
            go_wp2
            go_roundw
            case rel => first | exact ⟨k + 1, by omega, by go_num, HNO'.out, hx⟩ | (refine ⟨_, ⟨k + 1, by omega, ?_, HNO'.out, hx⟩, rfl⟩; go_num) | (refine ⟨_, _, ⟨k + 1, by omega, ?_, HNO'.out, hx⟩, rfl, rfl⟩; go_num) | (refine ⟨_, _, _, ⟨k + 1, by omega, ?_, HNO'.out, hx⟩, rfl, rfl, rfl⟩; go_num)
            case measure => simp [intOf]; omega
          | false =>
            have HF : Hid (mayV LS out = false) := hcase.out (fun hk2 => by have := hk2.1 (by rw [HL.out]; exact hkn); rw [hbad.out] at this; simp at this)
            go_wp2_with fail
            refine (HH.out k (by omega) _).mono ?_
            rintro e w2 ⟨rfl, rfl⟩
            rw [HB.out]
            clear hb
            go_upto_if 46 with ((with_reducible (refine wpList_at43 ?_)); refine wpList_load_want (by kernel_rfl) 40 _ rfl _ _ rfl x.cells _ hr Try.underlying40 rfl hi34 ?_)
            go_wp2
            go_ret
            exact ⟨by rw [HF.out]; rfl, k1.trans hx⟩
      · have g1 : ¬ (k : Int) < n := by omega
        have g2 : (n : Int) ≤ k := by omega
        cases hb : out.testBit k with
        | false =>
          have HB := Lib.hid hb
          have HOKK : Hid (okAt LS out k) := ⟨fun hi => by rw [HL.out] at hi; omega, fun _ => HB.out⟩
          have HNO' : Hid (∀ j, j < k + 1 → okAt LS out j) := fun j hj => by
            rcases Nat.lt_or_eq_of_le (Nat.lt_succ_iff.1 hj) with h | rfl
            · exact HNO.out j h
            · exact HOKK.out
          go_wp2_with fail
          refine (HH.out k (by omega) _).mono ?_
          rintro e w2 ⟨rfl, rfl⟩
          rw [HB.out]
          clear hb
          go_wp2
          go_roundw
          case rel => first | exact ⟨k + 1, by omega, by go_num, HNO'.out, hx⟩ | (refine ⟨_, ⟨k + 1, by omega, ?_, HNO'.out, hx⟩, rfl⟩; go_num) | (refine ⟨_, _, ⟨k + 1, by omega, ?_, HNO'.out, hx⟩, rfl, rfl⟩; go_num) | (refine ⟨_, _, _, ⟨k + 1, by omega, ?_, HNO'.out, hx⟩, rfl, rfl, rfl⟩; go_num)
          case measure => simp [intOf]; omega
        | true =>
          have HB := Lib.hid hb
          have HF : Hid (mayV LS out = false) := may_bad2 (i := k) (fun hk2 => by have := hk2.2 (by rw [HL.out]; omega); rw [HB.out] at this; cases this)
          go_wp2_with fail
          refine (HH.out k (by omega) _).mono ?_
          rintro e w2 ⟨rfl, rfl⟩
          rw [HB.out]
          clear hb
          go_wp2
          go_ret
          exact ⟨by rw [HF.out]; rfl, k1.trans hx⟩
    · obtain rfl : k = 64 := by omega
      have hme := may_end2 ho (fun i hi => HNO.out i hi)
      rw [HL.out] at hme
      have HF := Lib.hid hme
      clear hme
      by_cases h1 : 1 ≤ n
      · by_cases h8 : n ≤ 8
        · have g1 : (1 : Int) ≤ n := by omega
          have g8 : (n : Int) ≤ 8 := by omega
          have HR : Hid (mayV LS out = true) := by show _ = _; rw [HF.out, decide_eq_true h1, decide_eq_true h8]; rfl
          clear h1 h8
          go_wp2
          go_ret
          exact ⟨by rw [HR.out]; rfl, k1.trans hx⟩
        · have g1 : (1 : Int) ≤ n := by omega
          have g8 : ¬ (n : Int) ≤ 8 := by omega
          have HR : Hid (mayV LS out = false) := by show _ = _; rw [HF.out, decide_eq_false h8]; simp
          clear h1 h8
          go_wp2
          go_ret
          exact ⟨by rw [HR.out]; rfl, k1.trans hx⟩
      · have g1 : ¬ (1 : Int) ≤ n := by omega
        have HR : Hid (mayV LS out = false) := by show _ = _; rw [HF.out, decide_eq_false h1]; rfl
        clear h1
        go_wp2
        go_ret
        exact ⟨by rw [HR.out]; rfl, k1.trans hx⟩
set_option maxHeartbeats 2000000 in
theorem refSmay_any (A : Option Addr) (n c : Nat) (l : List Int) (w : World) (h : Ints w .u64 A n c l) :
    Calls Try.prog 37 #[.slice A n c] w fun e w' => e = .returned (.bool (Stake.mayV l)) ∧ w' = w := by
  have hv := h.view
  have hlen := h.len
  have hroom := h.room
  subst hlen
  clear h
  go_enter Try.func37, Try.ntmps37
  go_wp2
  go_loopw [3] (fun i wr => ∃ k : Nat, k ≤ l.length ∧ i = .int .i64 k ∧ (∀ j, j < k → nth l j ≤ 1099511627776) ∧ wr = w) (fun i _ => l.length - (intOf i).toNat)
  case atStart => exact ⟨0, Nat.zero_le _, rfl, (fun j hj => absurd hj (Nat.not_lt_zero j)), rfl⟩
  case round =>
    obtain ⟨k, hk, rfl, hno, rfl⟩ := hrel
    have HNO := Lib.hid hno
    clear hno
    by_cases hlt : k < l.length
    · rcases hv with h0 | ⟨b, off, rfl, hc⟩
      · omega
      have dx := hc k hlt
      clear hc
      by_cases ho : 1099511627776 < nth l k
      · have H : Hid (Stake.mayV l = false) := by
          show Stake.mayV l = false
          have : Stake.overL l = true := List.any_eq_true.2 ⟨nth l k, by rw [nth_eq hlt]; exact List.getElem_mem hlt, by simpa using ho⟩
          unfold Stake.mayV
          rw [this]; simp
        go_wp2
        go_ret
        exact ⟨by rw [H.out]; rfl, rfl⟩
      · go_wp2
        go_roundw
        case rel =>
          refine ⟨k + 1, by omega, by go_num, fun j hj => ?_, by first | rfl | trivial⟩
          rcases Nat.lt_or_eq_of_le (Nat.lt_succ_iff.1 hj) with h | rfl
          · exact HNO.out j h
          · omega
        case measure => simp [intOf]; omega
    · have e : k = l.length := by omega
      subst e
      have hov : Stake.overL l = false := List.any_eq_false.2 (fun x hx => by
        obtain ⟨i, hi, rfl⟩ := List.getElem_of_mem hx
        have := HNO.out i hi
        rw [nth_eq hi] at this
        simpa using this)
      by_cases h1 : 1 ≤ l.length
      · by_cases h8 : l.length ≤ 8
        · have H : Hid (Stake.mayV l = true) := Stake.mayV_iff.2 ⟨by omega, h8, hov⟩
          clear hov
          have g1 : (1 : Int) ≤ l.length := by omega
          have g8 : (l.length : Int) ≤ 8 := by omega
          go_wp2
          go_ret
          exact ⟨by rw [H.out]; first | rfl | simp [g1, g8], rfl⟩
        · have H : Hid (Stake.mayV l = false) := by show Stake.mayV l = false; unfold Stake.mayV; simp [h8]
          clear hov
          have g1 : (1 : Int) ≤ l.length := by omega
          have g8 : ¬ (l.length : Int) ≤ 8 := by omega
          go_wp2
          go_ret
          exact ⟨by rw [H.out]; first | rfl | simp [g1, g8], rfl⟩
      · have H : Hid (Stake.mayV l = false) := by show Stake.mayV l = false; unfold Stake.mayV; simp; omega
        clear hov
        have g1 : ¬ (1 : Int) ≤ l.length := by omega
        go_wp2
        go_ret
        exact ⟨by rw [H.out]; first | rfl | simp [g1], rfl⟩
end Go.Proofs.Ytjhhfininnlkfaa
