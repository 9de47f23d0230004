/- The document's answer for layer 8: one, Sub. -/
import Derived.Test.YtjhhfininnlkfaaWeightPass
import Derived.Test.YtjhhfininnlkfaaWeightLaw
import Derived.Test.YtjhhfininnlkfaaNumRef
import Derived.Test.YtjhhfininnlkfaaTreeRef
import Derived.Test.YtjhhfininnlkfaaQuietX
namespace Go.Proofs.Ytjhhfininnlkfaa
open Go.RowKit Go.WideShapes Go.ChangeShapes
set_option linter.unusedVariables false
set_option linter.unusedSimpArgs false





namespace Weight
def oneN (a b c : Nat) : Nat := if withB a b c = true then a + b - c else 0
theorem one_add {a b c : Nat} (ha : a < 18446744073709551616) (hb : b < 18446744073709551616) (h : c ≤ b) : Num.addV a (b - c) = oneN a b c ∧ Num.addB a (b - c) = withB a b c := by
  unfold oneN withB Num.addV Num.addB Num.M
  by_cases h1 : a + (b - c) < 18446744073709551616
  · have h2 : c ≤ a + b ∧ a + b - c < 18446744073709551616 := by omega
    rw [if_pos h1, decide_eq_true h1, decide_eq_true h2, if_pos rfl]
    exact ⟨by omega, rfl⟩
  · have h2 : ¬ (c ≤ a + b ∧ a + b - c < 18446744073709551616) := by omega
    rw [if_neg h1, decide_eq_false h1, decide_eq_false h2, if_neg (by simp)]
    exact ⟨rfl, rfl⟩
theorem one_sub {a b c : Nat} (ha : a < 18446744073709551616) (h : b < c) : Num.subV a (c - b) = oneN a b c ∧ Num.subB a (c - b) = withB a b c := by
  unfold oneN withB Num.subV Num.subB
  by_cases h1 : c - b ≤ a
  · have h2 : c ≤ a + b ∧ a + b - c < 18446744073709551616 := by omega
    rw [decide_eq_true h1, decide_eq_true h2, if_pos rfl]
    exact ⟨by omega, rfl⟩
  · have h2 : ¬ (c ≤ a + b ∧ a + b - c < 18446744073709551616) := by omega
    rw [decide_eq_false h1, decide_eq_false h2, if_neg (by simp)]
    exact ⟨by omega, rfl⟩
/-- The sum under way. -/
def part (T : List Node) (o : Nat → Nat) (i k : Nat) : Nat := sum k (fun x => if i ∈ Tree.line T x then o x else 0)
theorem part_succ (T : List Node) (o : Nat → Nat) (i k : Nat) : part T o i (k + 1) = part T o i k + if i ∈ Tree.line T k then o k else 0 := sum_succ _ _
theorem sum_up {m n : Nat} (h : m ≤ n) (f : Nat → Nat) : sum m f ≤ sum n f := by
  induction h with
  | refl => exact Nat.le_refl _
  | step _ ih => rw [sum_succ]; omega
theorem part_le (T : List Node) (o : Nat → Nat) (i : Nat) {k : Nat} (hk : k ≤ T.length) : part T o i k ≤ total T o := Nat.le_trans (sum_up hk _) (S_le T o i)
theorem subV_over {T : List Node} {l : List Int} (h : ¬ total T (at' l) < 18446744073709551616) : subV T l = none := by unfold subV; rw [if_neg (fun g => h g.2.2)]
theorem subV_short {T : List Node} {l : List Int} (h : l.length ≠ T.length) : subV T l = none := by unfold subV; rw [if_neg (fun g => h g.2.1)]
theorem subV_full {T : List Node} {l : List Int} (hm : Tree.mayV T = true) (hl : l.length = T.length) (h : ∀ i, i < T.length → S T (at' l) i < 18446744073709551616) : subV T l = some (listOf T.length (S T (at' l))) := by
  unfold subV
  rw [if_pos ⟨hm, hl, by rw [← S_zero]; exact h 0 (Tree.len_pos hm)⟩]
end Weight























set_option maxRecDepth 100000 in
set_option maxHeartbeats 2000000 in
theorem rsubs_any (A : Option Addr) (n c : Nat) (NS : List Node) (B : Option Addr) (m d : Nat) (l : List Int) (w : World) (h : NL w A n c NS) (hl : Ints w .u64 B m d l) :
    Calls Try.prog 24 #[.agg #[.slice A n c], .slice B m d] w fun e w' => (∃ v, e = .returned (.tuple #[v, .bool (Weight.subV NS l).isSome]) ∧ SubsAt w' v (Weight.subV NS l)) ∧ Ext w w' := by
  have hlen := h.len
  have hroom := h.row.room
  have hll := hl.len
  have HM := Lib.hid (fun b (hb : Tree.mayV NS = b) W (k : Ext w W) => rmay_is A n c NS b hb W (h.ext k))
  cases hm : Tree.mayV NS with
  | false =>
    rw [Weight.subV_no hm]
    clear hll
    go_enter Try.func24, Try.ntmps24
    go_wp2_with fail
    refine (HM.out false hm _ ((by repeat (first | assumption | exact Ext.refl _ | refine Ext.alloc ?_ _ | refine Ext.drew ?_ | refine Ext.drewN ?_ _ | refine Ext.setCell ?_ (by first | (simp; done) | omega | (simp; omega)) _ | refine Ext.trans (by assumption) ?_)))).mono ?_
    rintro e w1 ⟨rfl, hx1⟩
    have k1 : Ext w w1 := Ext.trans ((by repeat (first | assumption | exact Ext.refl _ | refine Ext.alloc ?_ _ | refine Ext.drew ?_ | refine Ext.drewN ?_ _ | refine Ext.setCell ?_ (by first | (simp; done) | omega | (simp; omega)) _ | refine Ext.trans (by assumption) ?_))) hx1
    have t0 := hx1.cell (p := ⟨w.heap.size, 0, none⟩) (v := .slice A n c) (by first | (simp; done) | (simp (maxDischargeDepth := 7) [go_sem]; done))
    go_wp2
    go_ret2
    exact ⟨⟨_, rfl, rfl⟩, k1⟩
  | true =>
    by_cases hmn : m = n
    case neg =>
      rw [Weight.subV_short (by omega)]
      have g1 : ((m : Int) != n) = true := by simp; omega
      have g2 : ¬ (m : Int) = n := by omega
      clear hll
      go_enter Try.func24, Try.ntmps24
      go_wp2_with fail
      refine (HM.out true hm _ ((by repeat (first | assumption | exact Ext.refl _ | refine Ext.alloc ?_ _ | refine Ext.drew ?_ | refine Ext.drewN ?_ _ | refine Ext.setCell ?_ (by first | (simp; done) | omega | (simp; omega)) _ | refine Ext.trans (by assumption) ?_)))).mono ?_
      rintro e w1 ⟨rfl, hx1⟩
      have k1 : Ext w w1 := Ext.trans ((by repeat (first | assumption | exact Ext.refl _ | refine Ext.alloc ?_ _ | refine Ext.drew ?_ | refine Ext.drewN ?_ _ | refine Ext.setCell ?_ (by first | (simp; done) | omega | (simp; omega)) _ | refine Ext.trans (by assumption) ?_))) hx1
      have t0 := hx1.cell (p := ⟨w.heap.size, 0, none⟩) (v := .slice A n c) (by first | (simp; done) | (simp (maxDischargeDepth := 7) [go_sem]; done))
      go_wp2
      go_ret2
      exact ⟨⟨_, rfl, rfl⟩, k1⟩
    obtain rfl : n = m := hmn.symm
    have h12 := Tree.len_le hm
    have CO := Lib.hid (fun W (k : Ext w W) x (hx : x < n) => (by obtain ⟨b, off, e, hc⟩ := hl.cells (by omega); have h := k.cell (hc x hx); rw [(hl.nat64 x).1] at h; exact ⟨b, off, e, h, (hl.nat64 x).2⟩ : ∃ b off, B = some ⟨b, off, none⟩ ∧ W.cell? ⟨b, off + x, none⟩ = some (.int .u64 (Weight.at' l x : Nat)) ∧ Weight.at' l x < 18446744073709551616))
    have HA := Lib.hid (fun (i k : Nat) (hi : i < n) (hk : k < n) b (hb : decide (i ∈ Tree.line NS k) = b) W (kx : Ext w W) => rabove_is A n c NS i k b (by rw [Tree.above_eq hm (by omega) (by omega)]; exact hb) W (h.ext kx))
    have HLN := Lib.hid hlen
    have HLL := Lib.hid hll
    have HMA := Lib.hid hm
    clear h hl hlen hll hmn
    go_enter Try.func24, Try.ntmps24
    go_wp2_with fail
    refine (HM.out true hm _ ((by repeat (first | assumption | exact Ext.refl _ | refine Ext.alloc ?_ _ | refine Ext.drew ?_ | refine Ext.drewN ?_ _ | refine Ext.setCell ?_ (by first | (simp; done) | omega | (simp; omega)) _ | refine Ext.trans (by assumption) ?_)))).mono ?_
    rintro e w1 ⟨rfl, hx1⟩
    have k1 : Ext w w1 := Ext.trans ((by repeat (first | assumption | exact Ext.refl _ | refine Ext.alloc ?_ _ | refine Ext.drew ?_ | refine Ext.drewN ?_ _ | refine Ext.setCell ?_ (by first | (simp; done) | omega | (simp; omega)) _ | refine Ext.trans (by assumption) ?_))) hx1
    have t0 := hx1.cell (p := ⟨w.heap.size, 0, none⟩) (v := .slice A n c) (by first | (simp; done) | (simp (maxDischargeDepth := 7) [go_sem]; done))
    have T0 := Lib.hid t0
    clear hm HM
    go_wp2
    clear t0
    go_loopw [7, 8, 9, 10, 11, 12, 13] (fun v' i' _ _ _ _ _ wr => ∃ i : Nat, i ≤ n ∧ i' = .int .i64 i ∧ wr.ownsRow w1.heap.size 26 1 v' i ((Weight.listOf i (Weight.S NS (Weight.at' l))).map (Value.int .u64)) ∧ (∀ x, x < i → Weight.S NS (Weight.at' l) x < 18446744073709551616) ∧ Ext w1 wr) (fun _ i' _ _ _ _ _ _ => n - (intOf i').toNat)
    case atStart => exact ⟨0, Nat.zero_le _, rfl, own_new _ _ _ _, fun x hx => absurd hx (Nat.not_lt_zero _), Ext.refl _⟩
    case round =>
      obtain ⟨i, hi, rfl, hown, hsm, hxr⟩ := hrel
      have kr := k1.trans hxr
      by_cases hlt : i < n
      · have gi : (i : Int) < n := by omega
        have HSM := Lib.hid hsm
        have HOW := Lib.hid hown
        clear hsm hown
        go_wp2
        obtain ⟨wo, rfl⟩ : ∃ wo : World, wo = wr := ⟨_, rfl⟩
        go_loopw [9, 10, 11, 12, 13] (fun s' k' _ _ _ wq => ∃ k : Nat, k ≤ n ∧ k' = .int .i64 k ∧ s' = .int .u64 (Weight.part NS (Weight.at' l) i k : Nat) ∧ Weight.part NS (Weight.at' l) i k < 18446744073709551616 ∧ Ext wo wq) (fun _ k' _ _ _ _ => n - (intOf k').toNat)
        case atStart => exact ⟨0, Nat.zero_le _, rfl, rfl, by show 0 < _; omega, Ext.refl _⟩
        case round =>
          obtain ⟨k, hk, rfl, rfl, hpl, hxq⟩ := hrel
          have kq := kr.trans hxq
          have tt := (hxr.trans hxq).cell T0.out
          by_cases hkn : k < n
          · have gk : (k : Int) < n := by omega
            have HPS := Lib.hid (Weight.part_succ NS (Weight.at' l) i k)
            have HPL := Lib.hid (Weight.part_le NS (Weight.at' l) i (k := k + 1) (by rw [HLN.out]; omega))
            by_cases hin : i ∈ Tree.line NS k
            · have HIN := Lib.hid hin
              go_wp2_with fail
              refine (HA.out i k hlt hkn true (decide_eq_true hin) _ kq).mono ?_
              rintro e w2 ⟨rfl, hx2⟩
              have k2 := kq.trans hx2
              obtain ⟨bo, oo, rfl, d0, d1⟩ := CO.out _ k2 k hkn
              obtain ⟨p, hp⟩ : ∃ p, Weight.part NS (Weight.at' l) i k = p := ⟨_, rfl⟩
              obtain ⟨x, hx⟩ : ∃ x, Weight.at' l k = x := ⟨_, rfl⟩
              rw [hp] at hpl ⊢
              rw [hx] at d0 d1
              have HP := Lib.hid hp
              have HX := Lib.hid hx
              clear hp hx hin
              by_cases hov : p + x < 18446744073709551616
              · have HAD := Lib.hid (fun W => (by have k := radd_any p x hpl d1 W; unfold Num.addV Num.addB Num.M at k; rw [if_pos hov, decide_eq_true hov] at k; exact k : Calls Try.prog 41 #[.int .u64 p, .int .u64 x] W fun e w' => e = .returned (.tuple #[.int .u64 (p + x : Nat), .bool true]) ∧ Ext W w'))
                have HOV := Lib.hid hov
                clear hov
                go_wp2_with fail
                refine (HAD.out _).mono ?_
                rintro e w3 ⟨rfl, hx3⟩
                go_wp2
                go_roundw
                case rel =>
                  have e1 : Weight.part NS (Weight.at' l) i (k + 1) = p + x := by rw [HPS.out, HP.out, if_pos HIN.out, HX.out]
                  exact ⟨k + 1, by omega, by go_num, by rw [e1, Int.natCast_add], by rw [e1]; exact HOV.out, hxq.trans (hx2.trans hx3)⟩
                case measure => simp [intOf]; omega
              · have HAD := Lib.hid (fun W => (by have k := radd_any p x hpl d1 W; unfold Num.addV Num.addB Num.M at k; rw [if_neg hov, decide_eq_false hov] at k; exact k : Calls Try.prog 41 #[.int .u64 p, .int .u64 x] W fun e w' => e = .returned (.tuple #[.int .u64 (0 : Nat), .bool false]) ∧ Ext W w'))
                have HN : Hid (Weight.subV NS l = none) := by
                  show _ = _
                  refine Weight.subV_over (fun g => hov ?_)
                  have e1 : Weight.part NS (Weight.at' l) i (k + 1) = p + x := by rw [HPS.out, HP.out, if_pos HIN.out, HX.out]
                  rw [← e1]
                  exact Nat.lt_of_le_of_lt HPL.out g
                clear hov
                go_wp2_with fail
                refine (HAD.out _).mono ?_
                rintro e w3 ⟨rfl, hx3⟩
                go_wp2
                go_ret2
                exact ⟨⟨_, by rw [HN.out]; rfl, by rw [HN.out]; rfl⟩, k2.trans hx3⟩
            · have HIN := Lib.hid hin
              go_wp2_with fail
              refine (HA.out i k hlt hkn false (decide_eq_false hin) _ kq).mono ?_
              rintro e w2 ⟨rfl, hx2⟩
              clear hin
              obtain ⟨p, hp⟩ : ∃ p, Weight.part NS (Weight.at' l) i k = p := ⟨_, rfl⟩
              rw [hp] at hpl ⊢
              have HP := Lib.hid hp
              clear hp
              go_wp2
              go_roundw
              case rel =>
                have e1 : Weight.part NS (Weight.at' l) i (k + 1) = p := by rw [HPS.out, HP.out, if_neg HIN.out]; rfl
                exact ⟨k + 1, by omega, by go_num, by rw [e1], by rw [e1]; exact hpl, hxq.trans hx2⟩
              case measure => simp [intOf]; omega
          · obtain rfl : n = k := by omega
            have e1 : Weight.part NS (Weight.at' l) i n = Weight.S NS (Weight.at' l) i := by rw [← HLN.out]; rfl
            rw [e1] at hpl ⊢
            have HLS := Lib.hid (Weight.listOf_succ i (Weight.S NS (Weight.at' l)))
            obtain ⟨x, hx⟩ : ∃ x, Weight.S NS (Weight.at' l) i = x := ⟨_, rfl⟩
            rw [hx] at hpl ⊢
            have HX := Lib.hid hx
            have HPL := Lib.hid hpl
            clear hx e1
            go_wp2_with (at_builtin; refine wpList_app rowU64 rfl _ _ rfl w1.heap.size _ _ _ rfl ((own_ext HOW.out hxq).alloc _) (some ⟨_, 0, none⟩) 1 1 [.int .u64 x] rfl (src_at rfl (by simp)) (by omega) (by have := (hxr.trans hxq).size; first | (simp; done) | (simp; omega)) ?_; intro v' w3 hown3 hgrow3 _)
            have hx3 : Ext w1 w3 := ((hxr.trans hxq).alloc _).grown hgrow3 (fun j e => own_from HOW.out j e)
            go_roundw
            case rel =>
              have hsm' : ∀ y, y < i + 1 → Weight.S NS (Weight.at' l) y < 18446744073709551616 := fun y hy => by
                rcases Nat.lt_or_eq_of_le (Nat.lt_succ_iff.1 hy) with h | rfl
                · exact HSM.out y h
                · rw [HX.out]; exact HPL.out
              have ho' : w3.ownsRow w1.heap.size 26 1 v' (i + 1) ((Weight.listOf (i + 1) (Weight.S NS (Weight.at' l))).map (Value.int .u64)) := by
                rw [HLS.out, List.map_append, HX.out]; exact hown3
              first | exact ⟨i + 1, by omega, by go_num, ho', hsm', hx3⟩ | (refine ⟨_, _, _, _, _, ⟨i + 1, by omega, ?_, ho', hsm', hx3⟩, rfl, rfl, rfl, rfl, rfl⟩; go_num)
            case measure => simp [intOf]; omega
      · obtain rfl : n = i := by omega
        have HN : Hid (Weight.subV NS l = some (Weight.listOf n (Weight.S NS (Weight.at' l)))) := by
          show _ = _
          rw [Weight.subV_full HMA.out (by rw [HLL.out, HLN.out]) (fun i hi => hsm i (by rw [← HLN.out]; exact hi)), HLN.out]
        have HWF := Lib.hid (Weight.listOf_wf hsm)
        have HOW := Lib.hid hown
        clear hsm hown
        go_wp2
        go_ret2
        exact ⟨⟨_, by rw [HN.out]; rfl, by rw [HN.out]; exact isInts_own HOW.out (by omega) HWF.out⟩, kr⟩
end Go.Proofs.Ytjhhfininnlkfaa
