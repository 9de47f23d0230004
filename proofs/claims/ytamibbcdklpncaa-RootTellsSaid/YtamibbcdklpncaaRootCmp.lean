/- slices.Compare of two roots' bytes; root.Less; the closure that root.Sort hands on. -/
import Derived.Test.YtamibbcdklpncaaRootV
import Derived.Test.YtamibbcdklpncaaRootOpen
import Derived.Sort.Grow
import Derived.Deep.RegionHeld3
namespace Go.Proofs.Ytamibbcdklpncaa
open Go.RowKit Go.WideShapes Go.ChangeShapes
set_option linter.unusedVariables false
set_option linter.unusedSimpArgs false



/-- cmp.Compare of two bytes. -/
def cmpI (x y : Int) : Int := if x < y then -1 else if y < x then 1 else 0
theorem nan_any (x : Int) (w : World) : Calls Try.prog 45 #[.int .u8 x] w fun e w' => e = .returned (.bool false) ∧ w' = w := by
  go_enter Try.func45, Try.ntmps45
  go_wp2
  go_ret
  exact ⟨rfl, rfl⟩
theorem cmpB_any (x y : Int) (w : World) : Calls Try.prog 32 #[.int .u8 x, .int .u8 y] w fun e w' => e = .returned (.int .i64 (cmpI x y)) ∧ w' = w := by
  unfold cmpI
  by_cases h1 : x < y
  · rw [if_pos h1]
    go_enter Try.func32, Try.ntmps32
    go_wp2_with (go_at_call 45; refine (nan_any _ _).mono ?_; rintro e w' ⟨rfl, rfl⟩)
    go_ret
    exact ⟨rfl, rfl⟩
  · rw [if_neg h1]
    by_cases h2 : y < x
    · rw [if_pos h2]
      go_enter Try.func32, Try.ntmps32
      go_wp2_with (go_at_call 45; refine (nan_any _ _).mono ?_; rintro e w' ⟨rfl, rfl⟩)
      go_ret
      exact ⟨rfl, rfl⟩
    · rw [if_neg h2]
      go_enter Try.func32, Try.ntmps32
      go_wp2_with (go_at_call 45; refine (nan_any _ _).mono ?_; rintro e w' ⟨rfl, rfl⟩)
      go_ret
      exact ⟨rfl, rfl⟩
set_option maxHeartbeats 2000000 in
theorem compare_any (b1 o1 b2 o2 c1 c2 : Nat) (l r : List Int) (w : World) (hl : l.length = 32) (hr : r.length = 32)
    (h : ∀ i, i < 32 → w.cell? ⟨b1, o1 + i, none⟩ = some (.int .u8 (nth l i))) (g : ∀ i, i < 32 → w.cell? ⟨b2, o2 + i, none⟩ = some (.int .u8 (nth r i))) :
    Calls Try.prog 23 #[.slice (some ⟨b1, o1, none⟩) 32 c1, .slice (some ⟨b2, o2, none⟩) 32 c2] w fun e w' => e = .returned (.int .i64 (Root.cmpV l r)) ∧ w' = w := by
  have H := Lib.hid h
  have G := Lib.hid g
  clear h g
  go_enter Try.func23, Try.ntmps23
  go_wp2
  go_loopw [5, 6, 7, 8, 11] (fun _ _ _ _ i wr => ∃ k : Nat, k ≤ 32 ∧ i = .int .i64 k ∧ Root.cmpV (l.drop k) (r.drop k) = Root.cmpV l r ∧ wr = w) (fun _ _ _ _ i _ => 32 - (intOf i).toNat)
  case atStart => exact ⟨0, by omega, rfl, rfl, rfl⟩
  case round =>
    obtain ⟨k, hk, rfl, hs, rfl⟩ := hrel
    have HS := Lib.hid hs
    clear hs
    by_cases hlt : k < 32
    · have d1 := H.out k hlt
      have d2 := G.out k hlt
      by_cases he : nth l k = nth r k
      · have e0 : cmpI (nth l k) (nth r k) = 0 := by unfold cmpI; rw [he]; simp
        have HE := Lib.hid (Root.cmp_step (l := l) (r := r) (k := k) (by omega) (by omega) he)
        clear he
        have hc := fun W => cmpB_any (nth l k) (nth r k) W
        rw [e0] at hc
        go_wp2_with (go_at_call 32; refine (hc _).mono ?_; rintro e w' ⟨rfl, rfl⟩)
        go_roundw
        case rel => exact ⟨k + 1, by omega, by go_num, by rw [← HE.out]; exact HS.out, by trivial⟩
        case measure => simp [intOf]; omega
      · have HE := Lib.hid (Root.cmp_here (l := l) (r := r) (k := k) (by omega) (by omega) he)
        have hc := fun W => cmpB_any (nth l k) (nth r k) W
        by_cases hx : nth l k < nth r k
        · have e0 : cmpI (nth l k) (nth r k) = -1 := by unfold cmpI; rw [if_pos hx]
          rw [e0] at hc
          clear he
          have HX := Lib.hid hx
          clear hx
          go_wp2_with (go_at_call 32; refine (hc _).mono ?_; rintro e w' ⟨rfl, rfl⟩)
          go_ret
          exact ⟨by rw [← HS.out, HE.out, if_pos HX.out]; rfl, rfl⟩
        · have e0 : cmpI (nth l k) (nth r k) = 1 := by unfold cmpI; rw [if_neg hx, if_pos (by omega)]
          rw [e0] at hc
          clear he
          have HX := Lib.hid hx
          clear hx
          go_wp2_with (go_at_call 32; refine (hc _).mono ?_; rintro e w' ⟨rfl, rfl⟩)
          go_ret
          exact ⟨by rw [← HS.out, HE.out, if_neg (by have := HX.out; omega)]; rfl, rfl⟩
    · have e : k = 32 := by omega
      subst e
      have e0 : Root.cmpV l r = 0 := by
        rw [← HS.out, List.drop_of_length_le (by omega), List.drop_of_length_le (by omega)]
        rfl
      go_wp2
      go_ret
      exact ⟨by rw [e0]; rfl, rfl⟩
theorem root_nth {r : List Int} (h : RootOk r) {i : Nat} (hi : i < 32) : (rootC r)[i]? = some (.int .u8 (nth r i)) := nth_map (by rw [h.1]; exact hi)
theorem root_range {w : World} {b o : Nat} {r : List Int} (h : RootOk r) (hr : w.rangeAt b o (rootC r)) : ∀ i, i < 32 → w.cell? ⟨b, o + i, none⟩ = some (.int .u8 (nth r i)) := fun i hi => hr i _ (root_nth h hi)
set_option maxHeartbeats 1000000 in
theorem sortCmp_any (a b : List Int) (ha : RootOk a) (hb : RootOk b) (w : World) :
    Calls Try.prog 22 #[.agg (rootC a).toArray, .agg (rootC b).toArray] w fun e w' => e = .returned (.int .i64 (Root.cmpV a b)) ∧ ∃ q os', w' = Sort.grow (w.drewN q) os' := by
  have ra := rangeAt_ext (range_new w (rootC a) 23) ((Ext.refl _).alloc (.cells (rootC b).toArray 23))
  have rb := range_at (w := w.alloc (.cells (rootC a).toArray 23)) (B := w.heap.size + 1) (rootC b) 23 (by simp)
  have hc := fun (W : World) (k : Ext ((w.alloc (.cells (rootC a).toArray 23)).alloc (.cells (rootC b).toArray 23)) W) => compare_any w.heap.size 0 (w.heap.size + 1) 0 32 32 a b W ha.1 hb.1 (root_range ha (rangeAt_ext ra k)) (root_range hb (rangeAt_ext rb k))
  go_enter Try.func22, Try.ntmps22
  go_wp2
  go_quiet ((go_at_call 23; refine Calls.quiet_of_same (hc _ ((by repeat (first | assumption | exact Ext.refl _ | refine Ext.alloc ?_ _ | refine Ext.drew ?_ | refine Ext.drewN ?_ _ | refine Ext.setCell ?_ (by first | (simp; done) | omega | (simp; omega)) _ | refine Ext.trans (by assumption) ?_))))))
  go_wp2
  go_ret
  exact ⟨rfl, _, _, by rw [Sort.alloc_eq_grow, Sort.alloc_eq_grow, Sort.grow_grow]; rfl⟩
theorem ltV_val (a b : List Int) : decide (Root.cmpV a b < 0) = Root.ltV a b := rfl
set_option maxHeartbeats 1000000 in
theorem less_any (a b : List Int) (ha : RootOk a) (hb : RootOk b) (w : World) :
    Calls Try.prog 16 #[.agg (rootC a).toArray, .agg (rootC b).toArray] w fun e w' => e = .returned (.bool (Root.ltV a b)) ∧ Ext w w' := by
  have ra := rangeAt_ext (range_new w (rootC a) 23) ((Ext.refl _).alloc (.cells (rootC b).toArray 23))
  have rb := range_at (w := w.alloc (.cells (rootC a).toArray 23)) (B := w.heap.size + 1) (rootC b) 23 (by simp)
  have hc := fun (W : World) (k : Ext ((w.alloc (.cells (rootC a).toArray 23)).alloc (.cells (rootC b).toArray 23)) W) => compare_any w.heap.size 0 (w.heap.size + 1) 0 32 32 a b W ha.1 hb.1 (root_range ha (rangeAt_ext ra k)) (root_range hb (rangeAt_ext rb k))
  have hia : (Try.prog.info? 23).map (·.size) = some (rootC a).length := by rw [rootC_len ha]; kernel_rfl
  have hib : (Try.prog.info? 23).map (·.size) = some (rootC b).length := by rw [rootC_len hb]; kernel_rfl
  by_cases hab : a = b
  · subst hab
    have hq : ∀ W, (binOp .neq 23 (.agg (rootC a).toArray) (.agg (rootC a).toArray)).run Try.prog W = .ok (.bool false) W := fun W => root_neq ha ha (b := true) (by simp) W
    rw [Root.lt_irrefl]
    go_enter Try.func16, Try.ntmps16
    go_wp2
    refine wp_region_quiet_lit (by kernel_rfl) (by kernel_rfl) ?_
    repeat (first | go_big_quiet_skip | (go_big_quiet_want; first | ((first | (refine quiet_load_mid 23 _ rfl _ _ rfl (rootC a) _ (fun W ⟨p, hp⟩ => hp ▸ rangeAt_ext ra (Ext.drewN (Ext.refl _) p)) Try.underlying23 rfl hia ?_) | (refine quiet_load_mid 23 _ rfl _ _ rfl (rootC a) _ (fun W ⟨p, hp⟩ => hp ▸ rangeAt_ext rb (Ext.drewN (Ext.refl _) p)) Try.underlying23 rfl hib ?_)); (try simp only [Act.put, List.setIfInBounds_toArray, List.set_cons_zero, List.set_cons_succ]); go_big_quiet_on) | (go_big_quiet_op; first | go_big_quiet_on | go_big_quiet_call ((go_at_call 23; refine Calls.quiet_of_same (hc _ ((by repeat (first | assumption | exact Ext.refl _ | refine Ext.alloc ?_ _ | refine Ext.drew ?_ | refine Ext.drewN ?_ _ | refine Ext.setCell ?_ (by first | (simp; done) | omega | (simp; omega)) _ | refine Ext.trans (by assumption) ?_)))))))))
    refine wpQuiet_nil ?_
    intro _ hw'
    obtain ⟨nq', hw''⟩ := hw'
    subst hw''
    go_wp2
    go_ret
    exact ⟨rfl, (by repeat (first | assumption | exact Ext.refl _ | refine Ext.alloc ?_ _ | refine Ext.drew ?_ | refine Ext.drewN ?_ _ | refine Ext.setCell ?_ (by first | (simp; done) | omega | (simp; omega)) _ | refine Ext.trans (by assumption) ?_))⟩
  · have hq : ∀ W, (binOp .neq 23 (.agg (rootC a).toArray) (.agg (rootC b).toArray)).run Try.prog W = .ok (.bool true) W := fun W => root_neq ha hb (b := false) (by simp [hab]) W
    rw [← ltV_val]
    generalize Root.cmpV a b = x at hc ⊢
    go_enter Try.func16, Try.ntmps16
    go_wp2
    refine wp_region_quiet_lit (by kernel_rfl) (by kernel_rfl) ?_
    repeat (first | go_big_quiet_skip | (go_big_quiet_want; first | ((first | (refine quiet_load_mid 23 _ rfl _ _ rfl (rootC a) _ (fun W ⟨p, hp⟩ => hp ▸ rangeAt_ext ra (Ext.drewN (Ext.refl _) p)) Try.underlying23 rfl hia ?_) | (refine quiet_load_mid 23 _ rfl _ _ rfl (rootC b) _ (fun W ⟨p, hp⟩ => hp ▸ rangeAt_ext rb (Ext.drewN (Ext.refl _) p)) Try.underlying23 rfl hib ?_)); (try simp only [Act.put, List.setIfInBounds_toArray, List.set_cons_zero, List.set_cons_succ]); go_big_quiet_on) | (go_big_quiet_op; first | go_big_quiet_on | go_big_quiet_call ((go_at_call 23; refine Calls.quiet_of_same (hc _ ((by repeat (first | assumption | exact Ext.refl _ | refine Ext.alloc ?_ _ | refine Ext.drew ?_ | refine Ext.drewN ?_ _ | refine Ext.setCell ?_ (by first | (simp; done) | omega | (simp; omega)) _ | refine Ext.trans (by assumption) ?_)))))))))
    refine wpQuiet_nil ?_
    intro _ hw'
    obtain ⟨nq', hw''⟩ := hw'
    subst hw''
    go_wp2
    go_ret
    exact ⟨rfl, (by repeat (first | assumption | exact Ext.refl _ | refine Ext.alloc ?_ _ | refine Ext.drew ?_ | refine Ext.drewN ?_ _ | refine Ext.setCell ?_ (by first | (simp; done) | omega | (simp; omega)) _ | refine Ext.trans (by assumption) ?_))⟩
end Go.Proofs.Ytamibbcdklpncaa
