/- stake.Who: the places of a number's bits, in order. -/
import Derived.Test.YtchfaiogiamfbaaDoorStake
import Derived.RangeFuncBox
import Derived.Maps.AppendAt
namespace Go.Proofs.YtchfaiogiamfbaaDoor
open Go.RowKit Go.WideShapes Go.ChangeShapes
set_option linter.unusedVariables false
set_option linter.unusedSimpArgs false
attribute [local go_sem] Oper.semAt_some

def whoV (m : Nat) : List Int := (Stake.bitsL m).map (fun k : Nat => (k : Int))

set_option maxRecDepth 100000 in
set_option maxHeartbeats 2000000 in
theorem who_in (m : Nat) (hm : m < 18446744073709551616) (w : World) (hT : Tab w) :
    CallsIn Fence.wide 9 Tryd.prog 11 #[.int .u64 m] w fun e w' => (∃ v, e = .returned v ∧ FreshInts w.heap.size w' .i64 v (whoV m)) ∧ Ext w w' := by
  obtain ⟨i0, hi, hz0, hz1, hz2⟩ := info_parts (show (Tryd.prog.info? 3).map (fun i => (i.zero, i.size, i.bytes)) = some (some (.int .i64 0), 1, 8) by kernel_rfl)
  have HT := Lib.hid (fun W (k : Ext w W) => Tab.ext hT k)
  clear hT
  refine callsIn_of_wp_marks Tryd.func11 rfl trivial ?_ rfl
  simp only [Tryd.ntmps11, List.size_toArray, List.length_cons, List.length_nil, Nat.reduceAdd, Nat.reduceSub, Array.replicate_succ, Array.replicate_zero, List.push_toArray, List.append_toArray, List.nil_append, List.cons_append]
  gi_wp2_with (refine ⟨trivial, ?_⟩; gi_at_call 25; refine (callsIn_wide.2 (each_any _ _)).mono ?_; rintro e w' ⟨rfl, rfl⟩)
  have bO := Boxed.new w 26 (.slice none 0 0)
  have bM := Boxed.new (w.alloc (.cells #[.slice none 0 0] 26)) 23 (.int .u64 m)
  rw [World.size_alloc] at bM
  have hB0 : Below w.heap.size w (((w.alloc (.cells #[.slice none 0 0] 26)).alloc (.cells #[.int .u64 m] 23))) := ((Below.refl _ w).alloc (Nat.le_refl _) _).alloc (by simp) _
  refine range_cap (w := ((w.alloc (.cells #[.slice none 0 0] 26)).alloc (.cells #[.int .u64 m] 23))) rfl (by omega) (gf := 33) (lb := #[.pointer (some ⟨w.heap.size + 1, 0, none⟩)]) rfl trivial (enters_of Tryd.func33 (by kernel_rfl) rfl)
    (B := w.heap.size + 1) (xs := Stake.bitsL m) (T := Tab) (by simp) (each1_in _ hm _ _ bM.cell bM.frozen)
    (fun pre W => (((∃ v, Boxed W w.heap.size 26 v ∧ W.ownsRow w.heap.size 3 1 v pre.length (pre.map (fun k => Value.int .i64 (k : Nat))) ∧ True) ∧ ∃ u, Boxed W (w.heap.size + 1) 23 u ∧ W.ownsRow w.heap.size 3 1 (.slice none 0 0) 0 [] ∧ True)) ∧ Below w.heap.size w W)
    (OwnFrom.and (OwnFrom.and (Own.from (holdsRow_own w.heap.size w.heap.size 26 3 1 (fun pre : List Nat => pre.length) (fun pre : List Nat => pre.map (fun k : Nat => Value.int .i64 (k : Nat))) (fun _ _ => True)) _) (Own.from (fun s X Y row ⟨u, hu, hr, _⟩ hg hrow => ⟨u, hu.kept hg (fun e' => by obtain ⟨o, ho, hc⟩ := hrow (w.heap.size + 1) e'.symm; rw [show X.heap[w.heap.size + 1]? = _ from hu] at ho; cases ho; cases hc), World.ownsRow_nil _ _ _ _, trivial⟩) _)) (ownFrom_below (Nat.le_refl _) (by simp; omega)))
    (fun s A v hs => by
      obtain ⟨⟨⟨v0, hv, hrow, _⟩, u, hu, _, _⟩, hB⟩ := hs
      exact ⟨⟨⟨v0, hv.other (by omega) _, hrow.kept (grownBy_setCell' A (w.heap.size + 1) v) (.inr (hu.not_row (by decide) hrow).symm), trivial⟩, v, hu.set v, World.ownsRow_nil _ _ _ _, trivial⟩, hB.setCell (p := ⟨w.heap.size + 1, 0, none⟩) (show w.heap.size ≤ w.heap.size + 1 by omega) _⟩)
    ⟨⟨⟨_, bO.alloc _, World.ownsRow_nil _ _ _ _, trivial⟩, _, bM, World.ownsRow_nil _ _ _ _, trivial⟩, hB0⟩ (fun s A hs => HT.out _ ⟨hs.2⟩)
    (fun x => { tmps := #[.int .u64 m, undef, .slice none 0 0, .pointer (some ⟨w.heap.size, 0, none⟩), .int .i64 (x : Nat), .int .u64 m, .func (.func 33) #[] #[.pointer (some ⟨w.heap.size + 1, 0, none⟩)], .int .i64 (x : Nat), undef, undef, undef, undef, undef], defers := [] }) ?assign ?body ?done
  case assign =>
    intro l x W K hK
    gi_wp2
    exact hK
  case body =>
    rintro lp pre x W ⟨⟨⟨v, hv, hrow, _⟩, u, hu, _, _⟩, hB⟩ hpx
    have hc := hv.cell
    have hpl : pre.length ≤ 64 := Nat.le_trans (List.IsPrefix.length_le ((List.prefix_append pre [x]).trans hpx)) (Stake.bitsL_len _)
    gi_wp2_with (gi_at_builtin; refine wpListIn_append_own _ rfl _ _ 26 rfl w.heap.size 3 i0 (.int .i64 0) 1 8 Tryd.underlying26 hi hz0 hz1 hz2 rfl (by decide) _ _ _ rfl (hrow.alloc _) ⟨W.heap.size, 0, none⟩ 1 1 [.int .i64 (x : Nat)] rfl rfl (cell_one_new _ _ _) (by simp [Value.oneCell']) (by unfold maxLen; omega) (by omega) (by have := hB.size; simp; omega) ?_; intro v' w1 hown' hgrow _; obtain ⟨g', cap', rfl⟩ := ownsRow_succ hown'; obtain ⟨hv1, hv2, hr2, hk2, hb2⟩ := hv.appended (by decide) hrow hB.size (Nat.le_refl _) hown' hgrow; have hc1 := hv1.cell; have hf1 := hv1.frozen)
    have hu1 : w1.heap[w.heap.size + 1]? = W.heap[w.heap.size + 1]? := (hgrow.block _ (by have := hu.lt; simp; omega) (hu.not_row (by decide) hrow)).trans (Below.heap_alloc W _ _ hu.lt)
    have hu2 := (own_set (A := w1) (B := w.heap.size) (B' := w.heap.size + 1) (v := .slice (some ⟨g', 0, none⟩) (pre.length + 1) cap') (by omega)).trans hu1
    exact ⟨hk2, hu2, ⟨⟨_, hv2, by simpa using hr2, trivial⟩, u, hu2.trans hu, World.ownsRow_nil _ _ _ _, trivial⟩, hB.trans hb2⟩
  case done =>
    rintro D W hD ⟨⟨⟨v, hv, hrow, _⟩, u, hu, _, _⟩, hB⟩ hK
    have hc := hv.cell
    gi_wp2
    refine ⟨by simp, .inl ⟨_, _, rfl, run_takeDeferred hK, ?_⟩⟩
    refine ⟨_, results_tmp rfl _ _ _, ⟨v, rfl, ?_⟩, ⟨hB.trans (belowK_b (w := w) (Nat.le_refl _) W D _ _ (by simp at hD; omega) hK rfl rfl)⟩⟩
    have hr := ownsRow_putObj hrow (.deferred none) hK rfl
    refine fresh_own (by unfold whoV; rw [List.map_map]; exact hr) (Nat.le_trans (Stake.bitsL_len _) (by omega)) (fun x hx => ?_)
    obtain ⟨k, hk, rfl⟩ := List.mem_map.1 hx
    have := Stake.bitsL_lt hk
    exact wf_i64 (by omega) (by omega)
theorem who_any (m : Nat) (hm : m < 18446744073709551616) (w : World) (hT : Tab w) :
    Calls Tryd.prog 11 #[.int .u64 m] w fun e w' => ∃ v, e = .returned v ∧ IsInts w' .i64 v (whoV m) ∧ Ext w w' :=
  (callsIn_wide.1 (who_in m hm w hT)).mono fun e w' ⟨⟨v, e1, h⟩, hx⟩ => ⟨v, e1, h.is, hx⟩
end Go.Proofs.YtchfaiogiamfbaaDoor
