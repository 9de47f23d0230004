/- VoteDrop: those for roots that are kept stay, all others have none; dropped again nothing changes. No conditions. -/
import Derived.Test.YtnpopepannimiaaVoteLaw
import Derived.Test.YtnpopepannimiaaVoteSame
import Derived.Test.YtnpopepannimiaaVoteKeep
import Derived.Test.YtnpopepannimiaaQuietX
import Derived.Deep.DeepCutAuto
import Derived.Deep.RegionHeld3
namespace Go.Proofs.Ytnpopepannimiaa
open Go.RowKit Go.WideShapes Go.ChangeShapes Go.Joins Go.Deep Go.Sort
set_option linter.unusedVariables false
set_option linter.unusedSimpArgs false
set_option linter.unusedSectionVars false








theorem keepL_keep (K : List (List Int)) (x : Lat) : keepL K (keepL K x) = keepL K x := by
  unfold keepL
  by_cases h : x.root ∈ K
  · rw [if_pos h, if_pos h]
  · rw [if_neg h]; split <;> rfl
theorem drop_getD (LS : List Lat) (K : List (List Int)) {i : Nat} (hi : i < LS.length) : (LS.map (keepL K)).getD i Lat.none = keepL K (LS.getD i Lat.none) := by simp [List.getD, hi]
theorem drop_may {LS : List Lat} {o : Nat} (K : List (List Int)) (hm : mayV LS o = true) : mayV (LS.map (keepL K)) o = true := by
  obtain ⟨h1, h2, h3, h4⟩ := mayV_iff.1 hm
  refine mayV_iff.2 ⟨by simpa using h1, by simpa using h2, by simpa using h3, fun i hi => ?_⟩
  rw [List.length_map] at hi
  by_cases hr : (LS.getD i Lat.none).root ∈ K
  · have := h4 i hi
    unfold badAt at this ⊢
    rw [drop_getD LS K hi, show keepL K (LS.getD i Lat.none) = LS.getD i Lat.none by unfold keepL; rw [if_pos hr]]
    exact this
  · exact bad_none _ _ _ (by rw [drop_getD LS K hi]; unfold keepL; rw [if_neg hr])
theorem dropV_again {LS : List Lat} {o : Nat} (K : List (List Int)) (hm : mayV LS o = true) : dropV (LS.map (keepL K)) o K = LS.map (keepL K) := by
  unfold dropV
  rw [if_pos (drop_may K hm), List.map_map]
  exact List.map_congr_left fun x _ => keepL_keep K x
theorem keepV {W W' : World} {B C : Nat} {a b c d : Value} (h0 : W.cell? ⟨B, 0, none⟩ = some a) (h1 : W.cell? ⟨B, 1, none⟩ = some b) (h2 : W.cell? ⟨C, 0, none⟩ = some c) (h3 : W.cell? ⟨C, 1, none⟩ = some d) (hx : Ext W W') :
    W'.cell? ⟨B, 0, none⟩ = some a ∧ W'.cell? ⟨B, 1, none⟩ = some b ∧ W'.cell? ⟨C, 0, none⟩ = some c ∧ W'.cell? ⟨C, 1, none⟩ = some d := ⟨hx.cell h0, hx.cell h1, hx.cell h2, hx.cell h3⟩




set_option maxRecDepth 100000 in
set_option maxHeartbeats 2000000 in
theorem VoteDrop_walk (A : Option Addr) (n c : Nat) (LS : List Lat) (o : Nat) (ho : o < 18446744073709551616) {w : World} (h : VL w A n c LS) (KA : Option Addr) (kn kc : Nat) (KS : List (List Int)) (hK : RL w KA kn kc KS) (i : Int) (q1 : -9223372036854775808 ≤ i) (q2 : i ≤ 9223372036854775807) :
    Calls Try.prog 8 #[.agg #[.slice A n c, .int .u64 o], .slice KA kn kc, .int .i64 i] w fun e' w' => e' = .returned (.bool true) ∧ Ext w w' := by
  have HA := Lib.hid (fun W => awake_any W)
  have HM := Lib.hid (fun W (k : Ext w W) => vmay_any A n c o ho LS W (h.ext k))
  have hl := h.len
  cases hm : mayV LS o with
  | false =>
    rw [hm] at HM
    clear h hK
    go_enter Try.func8, Try.ntmps8
    go_wp2_with fail
    refine (HA.out _).mono ?_
    rintro e1 w1 ⟨rfl, hx1⟩
    have k1 : Ext w w1 := Ext.trans ((by repeat (first | assumption | exact Ext.refl _ | refine Ext.alloc ?_ _ | refine Ext.drew ?_ | refine Ext.drewN ?_ _ | refine Ext.setCell ?_ (by first | (simp; done) | omega | (simp; omega)) _ | refine Ext.trans (by assumption) ?_))) hx1
    obtain ⟨v0, v1, vf⟩ := hx1.box2 (B := w.heap.size) (a := .slice A n c) (b := .int .u64 o) (by first | (simp; done) | (simp (maxDischargeDepth := 7) [go_sem]; done)) (by first | (simp; done) | (simp (maxDischargeDepth := 7) [go_sem]; done)) (by first | (simp; done) | (simp (maxDischargeDepth := 7) [go_sem]; done))
    have vl := lt_of_cell v0
    go_wp2_with fail
    refine (HM.out _ k1).mono ?_
    rintro e2 w2 ⟨rfl, hx2⟩
    have k2 : Ext w1 w2 := hx2
    replace vf := k2.free v0 vf
    replace v0 := k2.cell v0
    replace v1 := k2.cell v1
    replace vl := lt_of_cell v0
    go_wp2
    go_ret
    exact ⟨rfl, k1.trans k2⟩
  | true =>
    rw [hm] at HM
    by_cases hk40 : (40 : Int) < kn
    · clear h hK
      go_enter Try.func8, Try.ntmps8
      go_wp2_with fail
      refine (HA.out _).mono ?_
      rintro e1 w1 ⟨rfl, hx1⟩
      have k1 : Ext w w1 := Ext.trans ((by repeat (first | assumption | exact Ext.refl _ | refine Ext.alloc ?_ _ | refine Ext.drew ?_ | refine Ext.drewN ?_ _ | refine Ext.setCell ?_ (by first | (simp; done) | omega | (simp; omega)) _ | refine Ext.trans (by assumption) ?_))) hx1
      obtain ⟨v0, v1, vf⟩ := hx1.box2 (B := w.heap.size) (a := .slice A n c) (b := .int .u64 o) (by first | (simp; done) | (simp (maxDischargeDepth := 7) [go_sem]; done)) (by first | (simp; done) | (simp (maxDischargeDepth := 7) [go_sem]; done)) (by first | (simp; done) | (simp (maxDischargeDepth := 7) [go_sem]; done))
      have vl := lt_of_cell v0
      go_wp2_with fail
      refine (HM.out _ k1).mono ?_
      rintro e2 w2 ⟨rfl, hx2⟩
      have k2 : Ext w1 w2 := hx2
      replace vf := k2.free v0 vf
      replace v0 := k2.cell v0
      replace v1 := k2.cell v1
      replace vl := lt_of_cell v0
      go_wp2
      go_ret
      exact ⟨rfl, k1.trans k2⟩
    by_cases hv : i < 0
    · clear h hK
      go_enter Try.func8, Try.ntmps8
      go_wp2_with fail
      refine (HA.out _).mono ?_
      rintro e1 w1 ⟨rfl, hx1⟩
      have k1 : Ext w w1 := Ext.trans ((by repeat (first | assumption | exact Ext.refl _ | refine Ext.alloc ?_ _ | refine Ext.drew ?_ | refine Ext.drewN ?_ _ | refine Ext.setCell ?_ (by first | (simp; done) | omega | (simp; omega)) _ | refine Ext.trans (by assumption) ?_))) hx1
      obtain ⟨v0, v1, vf⟩ := hx1.box2 (B := w.heap.size) (a := .slice A n c) (b := .int .u64 o) (by first | (simp; done) | (simp (maxDischargeDepth := 7) [go_sem]; done)) (by first | (simp; done) | (simp (maxDischargeDepth := 7) [go_sem]; done)) (by first | (simp; done) | (simp (maxDischargeDepth := 7) [go_sem]; done))
      have vl := lt_of_cell v0
      go_wp2_with fail
      refine (HM.out _ k1).mono ?_
      rintro e2 w2 ⟨rfl, hx2⟩
      have k2 : Ext w1 w2 := hx2
      replace vf := k2.free v0 vf
      replace v0 := k2.cell v0
      replace v1 := k2.cell v1
      replace vl := lt_of_cell v0
      go_wp2
      go_ret
      exact ⟨rfl, k1.trans k2⟩
    by_cases hvn : (n : Int) ≤ i
    · clear h hK
      go_enter Try.func8, Try.ntmps8
      go_wp2_with fail
      refine (HA.out _).mono ?_
      rintro e1 w1 ⟨rfl, hx1⟩
      have k1 : Ext w w1 := Ext.trans ((by repeat (first | assumption | exact Ext.refl _ | refine Ext.alloc ?_ _ | refine Ext.drew ?_ | refine Ext.drewN ?_ _ | refine Ext.setCell ?_ (by first | (simp; done) | omega | (simp; omega)) _ | refine Ext.trans (by assumption) ?_))) hx1
      obtain ⟨v0, v1, vf⟩ := hx1.box2 (B := w.heap.size) (a := .slice A n c) (b := .int .u64 o) (by first | (simp; done) | (simp (maxDischargeDepth := 7) [go_sem]; done)) (by first | (simp; done) | (simp (maxDischargeDepth := 7) [go_sem]; done)) (by first | (simp; done) | (simp (maxDischargeDepth := 7) [go_sem]; done))
      have vl := lt_of_cell v0
      go_wp2_with fail
      refine (HM.out _ k1).mono ?_
      rintro e2 w2 ⟨rfl, hx2⟩
      have k2 : Ext w1 w2 := hx2
      replace vf := k2.free v0 vf
      replace v0 := k2.cell v0
      replace v1 := k2.cell v1
      replace vl := lt_of_cell v0
      go_wp2
      go_ret
      exact ⟨rfl, k1.trans k2⟩
    obtain ⟨p, rfl⟩ := Int.eq_ofNat_of_zero_le (show 0 ≤ i by omega)
    have hp : p < n := by omega
    have hd1 : dropV LS o KS = LS.map (keepL KS) := by unfold dropV; rw [if_pos hm]
    have hd2 := dropV_again KS hm
    have hm2 := drop_may KS hm
    have hg1 := drop_getD LS KS (show p < LS.length by omega)
    have hl1 : (LS.map (keepL KS)).length = n := by simpa using hl
    have HD := Lib.hid (fun W (k : Ext w W) => (by have t := drop_any A n c o ho LS KA kn kc KS W (h.ext k) (hK.ext k); rw [hd1] at t; exact t : Calls Try.prog 16 #[.agg #[.slice A n c, .int .u64 o], .slice KA kn kc] W fun e w' => (∃ A2 c2, e = .returned (.agg #[.slice A2 n c2, .int .u64 o]) ∧ VL w' A2 n c2 (LS.map (keepL KS))) ∧ Ext W w'))
    generalize LS.map (keepL KS) = L1 at *
    have HM1 := Lib.hid (fun A1 c1 W (g : VL W A1 n c1 L1) => (by have t := vmay_any A1 n c1 o ho L1 W g; rw [hm2] at t; exact t : Calls Try.prog 12 #[.agg #[.slice A1 n c1, .int .u64 o]] W fun e w' => e = .returned (.bool true) ∧ Ext W w'))
    have HD1 := Lib.hid (fun A1 c1 W (g : VL W A1 n c1 L1) (k : Ext w W) => (by have t := drop_any A1 n c1 o ho L1 KA kn kc KS W g (hK.ext k); rw [hd2] at t; exact t : Calls Try.prog 16 #[.agg #[.slice A1 n c1, .int .u64 o], .slice KA kn kc] W fun e w' => (∃ A2 c2, e = .returned (.agg #[.slice A2 n c2, .int .u64 o]) ∧ VL w' A2 n c2 L1) ∧ Ext W w'))
    clear hd1 hd2 hm2 hm
    have e40 : decide ((40 : Int) < (kn : Int)) = false := decide_eq_false hk40
    have ep0 : decide ((p : Int) < 0) = false := decide_eq_false hv
    have epn : decide ((n : Int) ≤ (p : Int)) = false := decide_eq_false hvn
    have HK := Lib.hid (fun W (k : Ext w W) => hK.ext k)
    have HKL := Lib.hid hK.len
    have hkroom := hK.row.room
    clear hK
    go_enter Try.func8, Try.ntmps8
    go_wp2_with fail
    refine (HA.out _).mono ?_
    rintro e1 w1 ⟨rfl, hx1⟩
    have k1 : Ext w w1 := Ext.trans ((by repeat (first | assumption | exact Ext.refl _ | refine Ext.alloc ?_ _ | refine Ext.drew ?_ | refine Ext.drewN ?_ _ | refine Ext.setCell ?_ (by first | (simp; done) | omega | (simp; omega)) _ | refine Ext.trans (by assumption) ?_))) hx1
    obtain ⟨v0, v1, vf⟩ := hx1.box2 (B := w.heap.size) (a := .slice A n c) (b := .int .u64 o) (by first | (simp; done) | (simp (maxDischargeDepth := 7) [go_sem]; done)) (by first | (simp; done) | (simp (maxDischargeDepth := 7) [go_sem]; done)) (by first | (simp; done) | (simp (maxDischargeDepth := 7) [go_sem]; done))
    have vl := lt_of_cell v0
    go_wp2_with fail
    refine (HM.out _ k1).mono ?_
    rintro e2 w2 ⟨rfl, hx2⟩
    have k2 : Ext w1 w2 := hx2
    replace vf := k2.free v0 vf
    replace v0 := k2.cell v0
    replace v1 := k2.cell v1
    replace vl := lt_of_cell v0
    clear HA HM
    go_wp2_with fail
    refine (HD.out _ (k1.trans k2)).mono ?_
    rintro e3 w3 ⟨⟨A3, c3, rfl, h3⟩, hx3⟩
    have k3 : Ext w2 w3 := Ext.trans ((by repeat (first | assumption | exact Ext.refl _ | refine Ext.alloc ?_ _ | refine Ext.drew ?_ | refine Ext.drewN ?_ _ | refine Ext.setCell ?_ (by first | (simp; done) | omega | (simp; omega)) _ | refine Ext.trans (by assumption) ?_))) hx3
    replace vf := k3.free v0 vf
    replace v0 := k3.cell v0
    replace v1 := k3.cell v1
    replace vl := lt_of_cell v0
    have k30 : Ext w w3 := k1.trans (k2.trans k3)
    go_wp2
    clear e40 ep0 epn
    have b0 : (w3.alloc (.cells #[.slice A3 n c3, .int .u64 o] 28)).cell? ⟨w3.heap.size, 0, none⟩ = some (.slice A3 n c3) := by simp (maxDischargeDepth := 7) [go_sem]
    have b1 : (w3.alloc (.cells #[.slice A3 n c3, .int .u64 o] 28)).cell? ⟨w3.heap.size, 1, none⟩ = some (.int .u64 o) := by simp (maxDischargeDepth := 7) [go_sem]
    have bf : ∀ q, (w3.alloc (.cells #[.slice A3 n c3, .int .u64 o] 28)).frozen? ⟨w3.heap.size, q, none⟩ = false := fun q => by simp (maxDischargeDepth := 7) [go_sem]
    have k34 : Ext w3 (w3.alloc (.cells #[.slice A3 n c3, .int .u64 o] 28)) := (Ext.refl _).alloc _
    replace h3 := h3.ext k34
    have k40 := k30.trans k34
    have h0 := h.ext k40
    replace vf := k34.free v0 vf
    replace v0 := k34.cell v0
    replace v1 := k34.cell v1
    replace vl := lt_of_cell v0
    generalize hB4 : w3.heap.size = B4 at *
    generalize (w3.alloc (.cells #[.slice A3 n c3, .int .u64 o] 28)) = w4 at *
    clear hB4 k1 k2 k3 k30 hx1 hx2 hx3 h k34
    obtain ⟨x, hx⟩ : ∃ x, LS.getD p Lat.none = x := ⟨_, rfl⟩
    rw [hx] at hg1
    have E0 : (.bool false : Value) = .bool (decide (x.root ∈ KS.take 0)) := by simp
    go_loopw [9, 10] (fun q i wr => ∃ k : Nat, k ≤ kn ∧ i = .int .i64 k ∧ q = .bool (decide (x.root ∈ KS.take k)) ∧ Ext w4 wr) (fun _ i _ => kn - (intOf i).toNat)
    case atStart => exact ⟨0, Nat.zero_le _, rfl, E0, Ext.refl _⟩
    case round =>
      clear E0
      obtain ⟨k, hk, rfl, rfl, hx4⟩ := hrel
      replace vf := hx4.free v0 vf
      replace v0 := hx4.cell v0
      replace v1 := hx4.cell v1
      replace vl := lt_of_cell v0
      replace bf := hx4.free b0 bf
      replace b0 := hx4.cell b0
      replace b1 := hx4.cell b1
      replace bl := lt_of_cell b0
      have h1 := h3.ext hx4
      replace h0 := h0.ext hx4
      by_cases hlt : k < kn
      · have HH := Lib.hid h1
        clear h1 h3 HD HM1 HD1 hg1
        obtain ⟨bk, ok, rfl, ry, hoky⟩ := (HK.out _ (k40.trans hx4)).at' hlt
        obtain ⟨bv, ov, rfl, rx, hokx⟩ := h0.at' hp
        rw [hx] at rx hokx
        have hrk := take_next (KS := KS) (k := k) (by rw [HKL.out]; exact hlt)
        generalize KS.getD k zeroR = y at *
        have hiy : (Try.prog.info? 32).map (·.size) = some (rootC y).length := by rw [rootC_len hoky]; kernel_rfl
        have hi32 : (Try.prog.info? 32).map (·.size) = some (rootC x.root).length := by rw [rootC_len hokx.1]; kernel_rfl
        have rxr := rangeAt_part rx (k := 1) rfl
        have g1 : (k : Int) < kn := by omega
        have g2 : (p : Int) < n := by omega
        clear rx
        cases hq : decide (x.root ∈ KS.take k) with
        | true =>
          have HN : Hid (decide (x.root ∈ KS.take (k + 1)) = true) := by show _ = _; rw [hrk]; simp at hq; simp [hq]
          clear hrk hq
          go_wp2
          refine wp_region_quiet_lit (by kernel_rfl) (by kernel_rfl) ?_
          repeat (first | go_big_quiet_skip | (go_big_quiet_want; first | ((first | (refine quiet_load_mid 32 _ rfl _ _ rfl (rootC y) _ (fun W ⟨nn, hn⟩ => hn ▸ rangeAt_ext ry ((Ext.refl _).drewN nn)) Try.underlying32 rfl hiy ?_) | (refine quiet_load_mid 32 _ rfl _ _ rfl (rootC x.root) _ (fun W ⟨nn, hn⟩ => hn ▸ rangeAt_ext rxr ((Ext.refl _).drewN nn)) Try.underlying32 rfl hi32 ?_)); (try simp only [Act.put, List.setIfInBounds_toArray, List.set_cons_zero, List.set_cons_succ]); go_big_quiet_on) | (go_big_quiet_op; first | go_big_quiet_on | go_big_quiet_call (fail))))
          refine wpQuiet_nil ?_
          intro _ hw'
          obtain ⟨nq', hw''⟩ := hw'
          subst hw''
          go_wp2
          go_roundw
          case rel =>
            have E' : (.bool true : Value) = .bool (decide (x.root ∈ KS.take (k + 1))) := by rw [HN.out]
            first | exact ⟨k + 1, by omega, by go_num, E', hx4.drewN _⟩ | (refine ⟨_, _, ⟨k + 1, by omega, ?_, E', hx4.drewN _⟩, rfl, rfl⟩; go_num)
          case measure => simp [intOf]; omega
        | false =>
          by_cases hyx : y = x.root
          · have HN : Hid (decide (x.root ∈ KS.take (k + 1)) = true) := by show _ = _; rw [hrk, hyx]; simp
            have he : ∀ W, (binOp .eql 32 (.agg (rootC y).toArray) (.agg (rootC x.root).toArray)).run Try.prog W = .ok (.bool true) W := fun W => root_eql hoky hokx.1 (b := true) (by simp [hyx]) W
            clear hrk hq hyx
            go_wp2
            refine wp_region_quiet_lit (by kernel_rfl) (by kernel_rfl) ?_
            repeat (first | go_big_quiet_skip | (go_big_quiet_want; first | ((first | (refine quiet_load_mid 32 _ rfl _ _ rfl (rootC y) _ (fun W ⟨nn, hn⟩ => hn ▸ rangeAt_ext ry ((Ext.refl _).drewN nn)) Try.underlying32 rfl hiy ?_) | (refine quiet_load_mid 32 _ rfl _ _ rfl (rootC x.root) _ (fun W ⟨nn, hn⟩ => hn ▸ rangeAt_ext rxr ((Ext.refl _).drewN nn)) Try.underlying32 rfl hi32 ?_)); (try simp only [Act.put, List.setIfInBounds_toArray, List.set_cons_zero, List.set_cons_succ]); go_big_quiet_on) | (go_big_quiet_op; first | go_big_quiet_on | go_big_quiet_call (fail))))
            refine wpQuiet_nil ?_
            intro _ hw'
            obtain ⟨nq', hw''⟩ := hw'
            subst hw''
            go_wp2
            go_roundw
            case rel =>
              have E' : (.bool true : Value) = .bool (decide (x.root ∈ KS.take (k + 1))) := by rw [HN.out]
              first | exact ⟨k + 1, by omega, by go_num, E', hx4.drewN _⟩ | (refine ⟨_, _, ⟨k + 1, by omega, ?_, E', hx4.drewN _⟩, rfl, rfl⟩; go_num)
            case measure => simp [intOf]; omega
          · have HN : Hid (decide (x.root ∈ KS.take (k + 1)) = false) := by show _ = _; rw [hrk]; simp at hq; simp [hq]; exact fun e => hyx e.symm
            have he : ∀ W, (binOp .eql 32 (.agg (rootC y).toArray) (.agg (rootC x.root).toArray)).run Try.prog W = .ok (.bool false) W := fun W => root_eql hoky hokx.1 (b := false) (by simp [hyx]) W
            clear hrk hq hyx
            go_wp2
            refine wp_region_quiet_lit (by kernel_rfl) (by kernel_rfl) ?_
            repeat (first | go_big_quiet_skip | (go_big_quiet_want; first | ((first | (refine quiet_load_mid 32 _ rfl _ _ rfl (rootC y) _ (fun W ⟨nn, hn⟩ => hn ▸ rangeAt_ext ry ((Ext.refl _).drewN nn)) Try.underlying32 rfl hiy ?_) | (refine quiet_load_mid 32 _ rfl _ _ rfl (rootC x.root) _ (fun W ⟨nn, hn⟩ => hn ▸ rangeAt_ext rxr ((Ext.refl _).drewN nn)) Try.underlying32 rfl hi32 ?_)); (try simp only [Act.put, List.setIfInBounds_toArray, List.set_cons_zero, List.set_cons_succ]); go_big_quiet_on) | (go_big_quiet_op; first | go_big_quiet_on | go_big_quiet_call (fail))))
            refine wpQuiet_nil ?_
            intro _ hw'
            obtain ⟨nq', hw''⟩ := hw'
            subst hw''
            go_wp2
            go_roundw
            case rel =>
              have E' : (.bool false : Value) = .bool (decide (x.root ∈ KS.take (k + 1))) := by rw [HN.out]
              first | exact ⟨k + 1, by omega, by go_num, E', hx4.drewN _⟩ | (refine ⟨_, _, ⟨k + 1, by omega, ?_, E', hx4.drewN _⟩, rfl, rfl⟩; go_num)
            case measure => simp [intOf]; omega
      · have e : k = kn := by omega
        subst e
        rw [show KS.take k = KS by rw [List.take_of_length_le (by rw [HKL.out]; omega)]]
        obtain ⟨w5, e5⟩ : ∃ w5, w5 = wr := ⟨_, rfl⟩
        subst e5
        have kw := k40.trans hx4
        have H1 := Lib.hid h1
        have V0 := Lib.hid v0
        have V1 := Lib.hid v1
        have B0 := Lib.hid b0
        have B1 := Lib.hid b1
        clear h3 k40 hx4 HD HK HKL
        go_upto_region 10 with fail
        go_cut [85] (fun q wx => q = .bool false ∧ Ext w5 wx)
        case first =>
          have g4 : decide ((n : Int) = n) = true := by simp
          go_region_held3 (fun w' => w'.cell? ⟨w.heap.size, 0, none⟩ = some (.slice A n c) ∧ w'.cell? ⟨w.heap.size, 1, none⟩ = some (.int .u64 o) ∧ w'.cell? ⟨B4, 0, none⟩ = some (.slice A3 n c3) ∧ w'.cell? ⟨B4, 1, none⟩ = some (.int .u64 o)) (exact keepV V0.out V1.out B0.out B1.out ((by repeat (first | assumption | exact Ext.refl _ | refine Ext.alloc ?_ _ | refine Ext.drew ?_ | refine Ext.drewN ?_ _ | refine Ext.setCell ?_ (by first | (simp; done) | omega | (simp; omega)) _ | refine Ext.trans (by assumption) ?_)))) (first | (go_at_call 12; (with_reducible refine (HM1.out _ _ _ (H1.out.ext ((by repeat (first | assumption | exact Ext.refl _ | refine Ext.alloc ?_ _ | refine Ext.drew ?_ | refine Ext.drewN ?_ _ | refine Ext.setCell ?_ (by first | (simp; done) | omega | (simp; omega)) _ | refine Ext.trans (by assumption) ?_))))).mono ?_); rintro e wa ⟨rfl, hxa⟩; have ka : Ext w5 wa := Ext.trans ((by repeat (first | assumption | exact Ext.refl _ | refine Ext.alloc ?_ _ | refine Ext.drew ?_ | refine Ext.drewN ?_ _ | refine Ext.setCell ?_ (by first | (simp; done) | omega | (simp; omega)) _ | refine Ext.trans (by assumption) ?_))) hxa) | (go_at_call 16; (with_reducible refine (HD1.out _ _ _ (H1.out.ext ((by repeat (first | assumption | exact Ext.refl _ | refine Ext.alloc ?_ _ | refine Ext.drew ?_ | refine Ext.drewN ?_ _ | refine Ext.setCell ?_ (by first | (simp; done) | omega | (simp; omega)) _ | refine Ext.trans (by assumption) ?_)))) (Ext.trans kw ((by repeat (first | assumption | exact Ext.refl _ | refine Ext.alloc ?_ _ | refine Ext.drew ?_ | refine Ext.drewN ?_ _ | refine Ext.setCell ?_ (by first | (simp; done) | omega | (simp; omega)) _ | refine Ext.trans (by assumption) ?_))))).mono ?_); rintro e wb ⟨⟨A5, c5, rfl, h5⟩, hxb⟩; have kb : Ext w5 wb := Ext.trans ((by repeat (first | assumption | exact Ext.refl _ | refine Ext.alloc ?_ _ | refine Ext.drew ?_ | refine Ext.drewN ?_ _ | refine Ext.setCell ?_ (by first | (simp; done) | omega | (simp; omega)) _ | refine Ext.trans (by assumption) ?_))) hxb) | (go_at_call 13; (with_reducible refine (same_self L1 o A5 n c5 A3 n c3 _ (h5.ext ((by repeat (first | assumption | exact Ext.refl _ | refine Ext.alloc ?_ _ | refine Ext.drew ?_ | refine Ext.drewN ?_ _ | refine Ext.setCell ?_ (by first | (simp; done) | omega | (simp; omega)) _ | refine Ext.trans (by assumption) ?_)))) (H1.out.ext ((by repeat (first | assumption | exact Ext.refl _ | refine Ext.alloc ?_ _ | refine Ext.drew ?_ | refine Ext.drewN ?_ _ | refine Ext.setCell ?_ (by first | (simp; done) | omega | (simp; omega)) _ | refine Ext.trans (by assumption) ?_))))).mono ?_); rintro e wd ⟨rfl, hxd⟩; have kd : Ext w5 wd := Ext.trans ((by repeat (first | assumption | exact Ext.refl _ | refine Ext.alloc ?_ _ | refine Ext.drew ?_ | refine Ext.drewN ?_ _ | refine Ext.setCell ?_ (by first | (simp; done) | omega | (simp; omega)) _ | refine Ext.trans (by assumption) ?_))) hxd))
          all_goals
            go_wp2_with fail
            go_meet
            exact ⟨rfl, by assumption⟩
        case rest =>
          obtain ⟨rfl, hxc⟩ := hcut
          obtain ⟨v0', v1', b0', b1'⟩ := keepV V0.out V1.out B0.out B1.out hxc
          have h1' := h1.ext hxc
          have h0' := h0.ext hxc
          obtain ⟨ba, oa, rfl, ra, hoka⟩ := h1'.at' hp
          obtain ⟨bv, ov, rfl, rx, hokx⟩ := h0'.at' hp
          rw [hx] at rx hokx
          rw [hg1] at ra hoka
          have hi34 : (Try.prog.info? 34).map (·.size) = some x.cells.length := by rw [Lat.len hokx]; kernel_rfl
          have hin : (Try.prog.info? 34).map (·.size) = some (Lat.cells Lat.none).length := by rw [Lat.len Lat.none_ok]; kernel_rfl
          have g2 : (p : Int) < n := by omega
          clear H1 V0 V1 B0 B1 HM1 HD1 v0 v1 vf b0 b1 bf h1 h0 h1' h0'
          by_cases hm : x.root ∈ KS
          · rw [show keepL KS x = x by unfold keepL; rw [if_pos hm]] at ra hoka
            have he : ∀ W, (binOp .eql 34 (.agg x.cells.toArray) (.agg x.cells.toArray)).run Try.prog W = .ok (.bool true) W := fun W => Lat.eql hokx hokx (b := true) (by simp) W
            rw [decide_eq_true hm]
            clear hm
            go_wp2
            refine wp_region_quiet_lit (by kernel_rfl) (by kernel_rfl) ?_
            repeat (first | go_big_quiet_skip | (go_big_quiet_want; first | ((first | (refine quiet_load_mid 34 _ rfl _ _ rfl x.cells _ (fun W ⟨nn, hn⟩ => hn ▸ rangeAt_ext ra ((Ext.refl _).drewN nn)) Try.underlying34 rfl hi34 ?_) | (refine quiet_load_mid 34 _ rfl _ _ rfl x.cells _ (fun W ⟨nn, hn⟩ => hn ▸ rangeAt_ext rx ((Ext.refl _).drewN nn)) Try.underlying34 rfl hi34 ?_)); (try simp only [Act.put, List.setIfInBounds_toArray, List.set_cons_zero, List.set_cons_succ]); go_big_quiet_on) | (go_big_quiet_op; first | go_big_quiet_on | go_big_quiet_call (fail))))
            refine wpQuiet_nil ?_
            intro _ hw'
            obtain ⟨nq', hw''⟩ := hw'
            subst hw''
            go_wp2
            go_ret
            exact ⟨rfl, (kw.trans hxc).drewN _⟩
          · rw [show keepL KS x = Lat.none by unfold keepL; rw [if_neg hm]] at ra hoka
            have he : ∀ W, (binOp .eql 34 (.agg Lat.none.cells.toArray) (.agg #[.bool false, .int .u8 0, .int .u8 0, .int .u8 0, .int .u8 0, .int .u8 0, .int .u8 0, .int .u8 0, .int .u8 0, .int .u8 0, .int .u8 0, .int .u8 0, .int .u8 0, .int .u8 0, .int .u8 0, .int .u8 0, .int .u8 0, .int .u8 0, .int .u8 0, .int .u8 0, .int .u8 0, .int .u8 0, .int .u8 0, .int .u8 0, .int .u8 0, .int .u8 0, .int .u8 0, .int .u8 0, .int .u8 0, .int .u8 0, .int .u8 0, .int .u8 0, .int .u8 0, .int .u64 0])).run Try.prog W = .ok (.bool true) W := fun W => Lat.eql Lat.none_ok Lat.none_ok (b := true) (by simp) W
            rw [decide_eq_false hm]
            clear hm
            go_wp2
            refine wp_region_quiet_lit (by kernel_rfl) (by kernel_rfl) ?_
            repeat (first | go_big_quiet_skip | (go_big_quiet_want; first | ((refine quiet_load_mid 34 _ rfl _ _ rfl Lat.none.cells _ (fun W ⟨nn, hn⟩ => hn ▸ rangeAt_ext ra ((Ext.refl _).drewN nn)) Try.underlying34 rfl hin ?_); (try simp only [Act.put, List.setIfInBounds_toArray, List.set_cons_zero, List.set_cons_succ]); go_big_quiet_on) | (go_big_quiet_op; first | go_big_quiet_on | go_big_quiet_call (fail))))
            refine wpQuiet_nil ?_
            intro _ hw'
            obtain ⟨nq', hw''⟩ := hw'
            subst hw''
            go_wp2
            go_ret
            exact ⟨rfl, (kw.trans hxc).drewN _⟩
set_option maxRecDepth 100000 in
theorem VoteDrop_lifted (os : Os) (started : os.Started) (H : Type) (enc : TypeId × Value → H) :
    ReturnsInHanded {} Try.checked os 8 .any (Rows.voteDropSpec.pre6 enc Try.prog Try.f8 Rows.voteDropRow.domain false) (Rows.voteDropSpec.post enc Try.prog Try.f8 false true false false) := by
  refine returnsInHanded_of_change_sized (C := Try.checked) own started (by kernel_rfl) Try.func8
    (ChangeSpec.witness6 (enc := enc) (C := Try.checked) false ⟨#[], #[.agg #[.slice none 0 0, .int .u64 0], .slice none 0 0, .int .i64 0], []⟩ 8 (by kernel_rfl) (by kernel_rfl) (by kernel_rfl) (by kernel_rfl)) ?_
  intro W base args ds gs before hval0 hW _hcnd hsz0 _
  have hval : ∀ (j : Nat) t v, Try.f8.params[j]? = some t → args[j]? = some v → Value.okWide Try.prog W .any base t v := hval0
  have hsz : (DataW.weightsEach Try.prog (Try.f8.params.toList ++ Rows.voteDropSpec.plain.varTypes Try.prog) (ds ++ gs)).all (· ≤ reachBytes) = true := hsz0
  have hW' := hW
  obtain ⟨p, q, hA0, hV, rfl, hfz, hnd⟩ := hW
  have hA : DataW.TrodAll enc Try.prog W 0 (fun _ => true) true Try.f8.params.toList args.toList ds p := hA0
  rw [Try.params8] at hA hval hsz
  obtain ⟨v0, vs0, d0, ds0, p0, q0, hargs, rfl, rfl, h0, r0⟩ := trodAll_cons hA
  obtain ⟨v1, vs1, d1, ds1, p1, q1, rfl, rfl, rfl, h1, r1⟩ := trodAll_cons r0
  obtain ⟨v2, vs2, d2, ds2, p2, q2, rfl, rfl, rfl, h2, r2⟩ := trodAll_cons r1
  obtain ⟨rfl, rfl, rfl⟩ := trodAll_nil r2
  obtain rfl : args = #[v0, v1, v2] := by cases args; simp_all
  obtain ⟨rfl, rfl⟩ := trodVars_none hV
  have h0k := h0
  have h1k := h1
  have h2k := h2
  have hlt0 : ∀ x ∈ p0, x.block < W.heap.size := fun x hx => by have := hW'.lt x (by simp [hx]); simpa using this
  have hlt1 : ∀ x ∈ p1, x.block < W.heap.size := fun x hx => by have := hW'.lt x (by simp [hx]); simpa using this
  have hlt2 : ∀ x ∈ p2, x.block < W.heap.size := fun x hx => by have := hW'.lt x (by simp [hx]); simpa using this
  obtain ⟨vA, vn, vc, v, vo, rfl, hv, hov⟩ := open_votes (hval 0 28 v0 rfl rfl) h0 hsz (j := 0) rfl rfl
  obtain ⟨keepA, keepn, keepc, keep, rfl, hkeep⟩ := open_roots (hval 1 22 v1 rfl rfl) h1 hsz (j := 1) rfl rfl
  obtain ⟨i, rfl, hi1, hi2⟩ := open_I64 Try.underlying3 (hval 2 3 v2 rfl rfl) h2
  clear hA0 hval0
  simp only [List.append_nil] at hW'
  refine (VoteDrop_walk vA vn vc v vo hov hv keepA keepn keepc keep hkeep i hi1 hi2 (w := W)).mono fun e W' ⟨he, hg⟩ => ?_
  subst he
  exact ⟨_, rfl, post_law (pa := p0 ++ (p1 ++ (p2 ++ []))) (pv := []) hW' (fun _ _ _ => (trodAll_cons_mk (shut_bool Try.underlying4 _) trodAll_mk0))
    (trodAll_cons_mk (Below.trod laidOut (by kernel_rfl) (of_decide_eq_true (by kernel_rfl)) h0k hg.out hlt0) (trodAll_cons_mk (Below.trod laidOut (by kernel_rfl) (of_decide_eq_true (by kernel_rfl)) h1k hg.out hlt1) (trodAll_cons_mk (Below.trod laidOut (by kernel_rfl) (of_decide_eq_true (by kernel_rfl)) h2k hg.out hlt2) trodAll_mk0))) rfl (by simp) hg⟩
theorem VoteDrop_holds : Rows.VoteDropSaid :=
  OpenClaim.holds_of_wide 8 Try.f8 rfl rfl rfl rfl rfl rfl rfl ⟨rfl, rfl, rfl, rfl, rfl⟩ rfl rfl rfl rfl rfl (by kernel_rfl) Try.func8 (by kernel_rfl)
    (of_decide_eq_true (by kernel_rfl)) (by unfold Func.isWrapper; first | (rw [if_pos (by decide +kernel)]; kernel_rfl) | (rw [if_neg (by decide +kernel)]; exact ⟨rfl, rfl⟩))
    (fun os started H enc _ => VoteDrop_lifted os started H enc)
#print axioms VoteDrop_holds
end Go.Proofs.Ytnpopepannimiaa
