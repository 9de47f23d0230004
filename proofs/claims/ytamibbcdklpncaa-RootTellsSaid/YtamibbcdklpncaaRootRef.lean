/- The document's Less, Same, value. -/
import Derived.Test.YtamibbcdklpncaaRootLaw
import Derived.Test.YtamibbcdklpncaaRootSortRun
namespace Go.Proofs.Ytamibbcdklpncaa
open Go.RowKit Go.WideShapes Go.ChangeShapes
set_option linter.unusedVariables false
set_option linter.unusedSimpArgs false


set_option maxHeartbeats 2000000 in
theorem rless_any (a b : List Int) (ha : RootOk a) (hb : RootOk b) (w : World) :
    Calls Try.prog 12 #[.agg (rootC a).toArray, .agg (rootC b).toArray] w fun e w' => e = .returned (.bool (Root.ltV a b)) ∧ Ext w w' := by
  obtain ⟨w0, hw0, x0, ra, rb⟩ : ∃ w0, (w.alloc (.cells (rootC a).toArray 23)).alloc (.cells (rootC b).toArray 23) = w0 ∧ Ext w w0 ∧ w0.rangeAt w.heap.size 0 (rootC a) ∧ w0.rangeAt (w.heap.size + 1) 0 (rootC b) :=
    ⟨_, rfl, (by repeat (first | assumption | exact Ext.refl _ | refine Ext.alloc ?_ _ | refine Ext.drew ?_ | refine Ext.drewN ?_ _ | refine Ext.setCell ?_ (by first | (simp; done) | omega | (simp; omega)) _ | refine Ext.trans (by assumption) ?_)), rangeAt_ext (range_new w (rootC a) _) (Ext.alloc (Ext.refl _) _), range_at (w := w.alloc (.cells (rootC a).toArray 23)) (rootC b) _ (by simp)⟩
  have H := Lib.hid (fun W (k : Ext w0 W) (i : Nat) (hi : i < 32) => (by have := root_range ha (rangeAt_ext ra k) i hi; rwa [Nat.zero_add] at this : W.cell? ⟨w.heap.size, i, none⟩ = some (.int .u8 (nth a i))))
  have G := Lib.hid (fun W (k : Ext w0 W) (i : Nat) (hi : i < 32) => (by have := root_range hb (rangeAt_ext rb k) i hi; rwa [Nat.zero_add] at this : W.cell? ⟨w.heap.size + 1, i, none⟩ = some (.int .u8 (nth b i))))
  have HA := ha.1
  have HB := hb.1
  have HL : Root.ltV a b = decide (Root.cmpV a b < 0) := rfl
  rw [HL]
  clear HL ra rb ha hb
  go_enter Try.func12, Try.ntmps12
  go_wp2
  go_loopw [4, 5] (fun _ i wr => ∃ k : Nat, k ≤ 32 ∧ i = .int .i64 k ∧ Root.cmpV (a.drop k) (b.drop k) = Root.cmpV a b ∧ Ext w0 wr) (fun _ i _ => 32 - (intOf i).toNat)
  case atStart => exact ⟨0, by omega, rfl, rfl, Ext.refl _⟩
  case round =>
    obtain ⟨k, hk, rfl, hs, hx⟩ := hrel
    have HS := Lib.hid hs
    clear hs
    by_cases hlt : k < 32
    · have d1 := H.out wr hx k hlt
      have d2 := G.out wr hx k hlt
      have HE1 := Lib.hid (fun he => Root.cmp_step (l := a) (r := b) (k := k) (by omega) (by omega) he)
      have HE2 := Lib.hid (fun he => Root.cmp_here (l := a) (r := b) (k := k) (by omega) (by omega) he)
      generalize nth a k = x at *
      generalize nth b k = y at *
      by_cases he : x = y
      · subst he
        have HE := Lib.hid (HE1.out rfl)
        go_wp2
        refine wp_region_quiet_lit (by kernel_rfl) (by kernel_rfl) ?_
        repeat (first | go_big_quiet_skip | (go_big_quiet_want; first | ((fail); (try simp only [Act.put, List.setIfInBounds_toArray, List.set_cons_zero, List.set_cons_succ]); go_big_quiet_on) | (go_big_quiet_op; first | go_big_quiet_on | go_big_quiet_call (fail))))
        refine wpQuiet_nil ?_
        intro _ hw'
        obtain ⟨nq', hw''⟩ := hw'
        subst hw''
        go_wp2
        go_roundw
        case rel => exact ⟨k + 1, by omega, by go_num, by rw [← HE.out]; exact HS.out, (by repeat (first | assumption | exact Ext.refl _ | refine Ext.alloc ?_ _ | refine Ext.drew ?_ | refine Ext.drewN ?_ _ | refine Ext.setCell ?_ (by first | (simp; done) | omega | (simp; omega)) _ | refine Ext.trans (by assumption) ?_))⟩
        case measure => simp [intOf]; omega
      · have HE := Lib.hid (HE2.out he)
        go_wp2
        refine wp_region_quiet_lit (by kernel_rfl) (by kernel_rfl) ?_
        repeat (first | go_big_quiet_skip | (go_big_quiet_want; first | ((fail); (try simp only [Act.put, List.setIfInBounds_toArray, List.set_cons_zero, List.set_cons_succ]); go_big_quiet_on) | (go_big_quiet_op; first | go_big_quiet_on | go_big_quiet_call (fail))))
        refine wpQuiet_nil ?_
        intro _ hw'
        obtain ⟨nq', hw''⟩ := hw'
        subst hw''
        go_wp2
        refine wp_region_quiet_lit (by kernel_rfl) (by kernel_rfl) ?_
        repeat (first | go_big_quiet_skip | (go_big_quiet_want; first | ((fail); (try simp only [Act.put, List.setIfInBounds_toArray, List.set_cons_zero, List.set_cons_succ]); go_big_quiet_on) | (go_big_quiet_op; first | go_big_quiet_on | go_big_quiet_call (fail))))
        refine wpQuiet_nil ?_
        intro _ hw'
        obtain ⟨nq', hw''⟩ := hw'
        subst hw''
        go_wp2
        go_ret
        refine ⟨?_, x0.trans (by repeat (first | assumption | exact Ext.refl _ | refine Ext.alloc ?_ _ | refine Ext.drew ?_ | refine Ext.drewN ?_ _ | refine Ext.setCell ?_ (by first | (simp; done) | omega | (simp; omega)) _ | refine Ext.trans (by assumption) ?_))⟩
        rw [← HS.out, HE.out]
        by_cases hxy : x < y
        · simp [hxy]
        · simp [hxy]
    · have e : k = 32 := by omega
      subst e
      have e0 : Root.cmpV a b = 0 := by
        rw [← HS.out, List.drop_of_length_le (by omega), List.drop_of_length_le (by omega)]
        rfl
      go_wp2
      go_ret
      exact ⟨by rw [e0]; rfl, x0.trans hx⟩
set_option maxHeartbeats 2000000 in
theorem same_self (R : List (List Int)) (A : Option Addr) (n c : Nat) (A' : Option Addr) (n' c' : Nat) (w : World) (h : RL w A n c R) (h' : RL w A' n' c' R) :
    Calls Try.prog 13 #[.slice A n c, .slice A' n' c'] w fun e w' => e = .returned (.bool true) ∧ Ext w w' := by
  obtain rfl : n' = n := h'.len.symm.trans h.len
  have hroom := h.row.room
  have hbytes := h.bytes
  have HV := Lib.hid (fun W (k : Ext w W) => h.ext k)
  have GV := Lib.hid (fun W (k : Ext w W) => h'.ext k)
  clear h h'
  go_enter Try.func13, Try.ntmps13
  go_wp2
  go_loopw [4, 5] (fun _ i wr => ∃ k : Nat, k ≤ n' ∧ i = .int .i64 k ∧ Ext w wr) (fun _ i _ => n' - (intOf i).toNat)
  case atStart => exact ⟨0, Nat.zero_le _, rfl, Ext.refl _⟩
  case round =>
    obtain ⟨k, hk, rfl, hx⟩ := hrel
    by_cases hlt : k < n'
    · obtain ⟨b, off, rfl, hrx, hokx⟩ := (HV.out wr hx).at' hlt
      obtain ⟨b2, off2, rfl, hry, -⟩ := (GV.out wr hx).at' hlt
      generalize R.getD k zeroR = x at *
      have g1 : (k : Int) < n' := by omega
      have hq : ∀ W, (binOp .neq 23 (.agg (rootC x).toArray) (.agg (rootC x).toArray)).run Try.prog W = .ok (.bool false) W := fun W => root_neq hokx hokx (b := true) (by simp) W
      have hi32 : (Try.prog.info? 23).map (·.size) = some (rootC x).length := by rw [rootC_len hokx]; kernel_rfl
      go_wp2
      refine wp_region_quiet_lit (by kernel_rfl) (by kernel_rfl) ?_
      repeat (first | go_big_quiet_skip | (go_big_quiet_want; first | ((first | (refine quiet_load_mid 23 _ rfl _ _ rfl (rootC x) _ (fun W ⟨nn, hn⟩ => hn ▸ rangeAt_ext hrx ((Ext.refl _).drewN nn)) Try.underlying23 rfl hi32 ?_) | (refine quiet_load_mid 23 _ rfl _ _ rfl (rootC x) _ (fun W ⟨nn, hn⟩ => hn ▸ rangeAt_ext hry ((Ext.refl _).drewN nn)) Try.underlying23 rfl hi32 ?_)); (try simp only [Act.put, List.setIfInBounds_toArray, List.set_cons_zero, List.set_cons_succ]); go_big_quiet_on) | (go_big_quiet_op; first | go_big_quiet_on | go_big_quiet_call (fail))))
      refine wpQuiet_nil ?_
      intro _ hw'
      obtain ⟨nq', hw''⟩ := hw'
      subst hw''
      go_wp2
      go_roundw
      case rel => exact ⟨k + 1, by omega, by go_num, (by repeat (first | assumption | exact Ext.refl _ | refine Ext.alloc ?_ _ | refine Ext.drew ?_ | refine Ext.drewN ?_ _ | refine Ext.setCell ?_ (by first | (simp; done) | omega | (simp; omega)) _ | refine Ext.trans (by assumption) ?_))⟩
      case measure => simp [intOf]; omega
    · have e : k = n' := by omega
      subst e
      go_wp2
      go_ret
      exact ⟨rfl, hx⟩
/-- What a byte stands for, as the document says it. -/
theorem val_rule : ∀ b : Fin 256, Root.val (UInt8.ofNat b.1) = if 48 ≤ b.1 ∧ b.1 ≤ 57 then (b.1 : Int) - 48 else if 97 ≤ b.1 ∧ b.1 ≤ 102 then (b.1 : Int) - 97 + 10 else -1 := by decide +kernel
set_option maxHeartbeats 2000000 in
theorem value_any (b : UInt8) (w : World) : Calls Try.prog 20 #[.int .u8 b.toNat] w fun e w' => e = .returned (.int .i64 (Root.val b)) ∧ w' = w := by
  have hv := val_rule ⟨b.toNat, b.toNat_lt⟩
  simp only [UInt8.ofNat_toNat] at hv
  have hb := b.toNat_lt
  generalize Root.val b = v at *
  generalize b.toNat = n at *
  by_cases h1 : 48 ≤ n
  · by_cases h2 : n ≤ 57
    · rw [if_pos ⟨h1, h2⟩] at hv
      have HV := Lib.hid hv
      clear hv
      go_enter Try.func20, Try.ntmps20
      go_wp2
      go_ret
      refine ⟨?_, rfl⟩
      rw [HV.out]
      go_num
    · rw [if_neg (by omega)] at hv
      by_cases h3 : 97 ≤ n
      · by_cases h4 : n ≤ 102
        · rw [if_pos ⟨h3, h4⟩] at hv
          have HV := Lib.hid hv
          clear hv
          go_enter Try.func20, Try.ntmps20
          go_wp2
          go_ret
          refine ⟨?_, rfl⟩
          rw [HV.out]
          go_num
        · rw [if_neg (by omega)] at hv
          subst hv
          go_enter Try.func20, Try.ntmps20
          go_wp2
          go_ret
          exact ⟨rfl, rfl⟩
      · rw [if_neg (by omega)] at hv
        subst hv
        go_enter Try.func20, Try.ntmps20
        go_wp2
        go_ret
        exact ⟨rfl, rfl⟩
  · rw [if_neg (by omega), if_neg (by omega)] at hv
    subst hv
    go_enter Try.func20, Try.ntmps20
    go_wp2
    go_ret
    exact ⟨rfl, rfl⟩
end Go.Proofs.Ytamibbcdklpncaa
