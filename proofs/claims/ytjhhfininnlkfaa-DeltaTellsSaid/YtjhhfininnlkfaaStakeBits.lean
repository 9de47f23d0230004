/- The bits of a number, in order; a range over a function that takes them off, lowest first, whose state lies in a captured cell. -/
import Derived.Test.YtjhhfininnlkfaaRow
import Derived.Lib.TrailingZeros
import Derived.Laws.Bits64b
import Derived.RangeFuncNested
import Derived.RangeFuncBound
import Derived.RangeFuncCalls
import Derived.RangeFuncLeaves
import Derived.RangeFuncFrom
import Derived.Shelf.Abstract
import Derived.Shelf.RegionOpen
import Derived.WalkKit
import Derived.OwnWalkIn
import Derived.TacticsInMore
import Derived.LoopNIn
import Derived.LoopIn
namespace Go.Proofs.Ytjhhfininnlkfaa
open Go.RowKit Go.WideShapes Go.ChangeShapes
set_option linter.unusedVariables false
set_option linter.unusedSimpArgs false

namespace Stake
/-- The places of a number's bits, rising. -/
def bitsL (m : Nat) : List Nat := (List.range 64).filter (fun v => m.testBit v)
theorem bitsL_zero : bitsL 0 = [] := by simp [bitsL]
theorem filter_peel (p p' : Nat → Bool) (k : Nat) (hk : p k = true) (hlt : ∀ v, v < k → p v = false) (hp : ∀ v, p' v = (p v && decide (v ≠ k))) : ∀ n, k < n → (List.range n).filter p = k :: (List.range n).filter p' := by
  intro n
  induction n with
  | zero => intro h; omega
  | succ n ih =>
    intro h
    rw [List.range_succ, List.filter_append, List.filter_append]
    by_cases e : k = n
    · subst e
      have h1 : (List.range k).filter p = [] := List.filter_eq_nil_iff.2 (fun v hv => by rw [hlt v (List.mem_range.1 hv)]; simp)
      have h2 : (List.range k).filter p' = [] := List.filter_eq_nil_iff.2 (fun v hv => by rw [hp, hlt v (List.mem_range.1 hv)]; simp)
      rw [h1, h2]
      simp [hk, hp]
    · rw [ih (by omega)]
      have : p' n = p n := by rw [hp]; simp; intro _ e'; exact e e'.symm
      simp [List.filter_cons, this]
theorem peel (r : Nat) (h0 : r ≠ 0) (h : r < 18446744073709551616) : Lib.ctz 64 r < 64 ∧ r.testBit (Lib.ctz 64 r) = true ∧ (∀ v, v < Lib.ctz 64 r → r.testBit v = false) ∧ ∀ v, (r &&& (r - 1)).testBit v = (r.testBit v && decide (v ≠ Lib.ctz 64 r)) := by
  have e : Lib.ctz 64 r = Lib.ctzFrom 64 r := by simp [Lib.ctz, h0]
  rw [e]
  obtain ⟨q, hq, hk⟩ := Lib.ctzFrom_spec 64 r (by omega) (by simpa using h)
  generalize Lib.ctzFrom 64 r = k at *
  have hp : 0 < 2 ^ k := Nat.two_pow_pos k
  have e1 : r = 2 ^ k * (2 * q + 1) + 0 := by omega
  have e2 : r - 1 = 2 ^ k * (2 * q) + (2 ^ k - 1) := by
    rw [hq, Nat.mul_add]; omega
  have t1 : ∀ v, r.testBit v = if v < k then false else (2 * q + 1).testBit (v - k) := by
    intro v
    rw [e1, Nat.testBit_two_pow_mul_add _ hp]
    split <;> simp
  have t2 : ∀ v, (r - 1).testBit v = if v < k then (2 ^ k - 1).testBit v else (2 * q).testBit (v - k) := by
    intro v
    rw [e2, Nat.testBit_two_pow_mul_add _ (by omega)]
  refine ⟨hk, ?_, fun v hv => by rw [t1, if_pos hv], fun v => ?_⟩
  · rw [t1]; simp
  · rw [Nat.testBit_and, t1, t2]
    by_cases hv : v < k
    · simp [hv]
    · rw [if_neg hv, if_neg hv]
      by_cases e : v = k
      · subst e; simp
      · obtain ⟨j, rfl⟩ : ∃ j, v = k + (j + 1) := ⟨v - k - 1, by omega⟩
        have e3 : k + (j + 1) - k = j + 1 := by omega
        rw [e3, Nat.testBit_succ, Nat.testBit_succ]
        have d1 : (2 * q + 1) / 2 = q := by omega
        have d2 : 2 * q / 2 = q := by omega
        rw [d1, d2]
        simp
theorem bitsL_cons (r : Nat) (h0 : r ≠ 0) (h : r < 18446744073709551616) : bitsL r = Lib.ctz 64 r :: bitsL (r &&& (r - 1)) := by
  obtain ⟨hk, h1, h2, h3⟩ := peel r h0 h
  exact filter_peel _ _ _ h1 h2 h3 64 hk
theorem and_pred_lt (r : Nat) (h0 : r ≠ 0) : r &&& (r - 1) < r := by
  have : r &&& (r - 1) ≤ r - 1 := Nat.and_le_right
  omega
theorem bitsL_lt {m v : Nat} (h : v ∈ bitsL m) : v < 64 := by
  unfold bitsL at h
  exact List.mem_range.1 (List.mem_filter.1 h).1
theorem mem_bitsL {m v : Nat} : v ∈ bitsL m ↔ v < 64 ∧ m.testBit v = true := by
  unfold bitsL
  rw [List.mem_filter, List.mem_range]
theorem bitsL_len (m : Nat) : (bitsL m).length ≤ 64 := by
  unfold bitsL
  exact Nat.le_trans (List.length_filter_le _ _) (by simp)
end Stake

section
variable {F : Fence} {n : Nat} {P : Program}
/-- How a round's body may be left here: it goes on; what is no cells lies as it lay; the iterator's own cell is not turned. -/
def capPost (B : Nat) (I : List Nat → World → Prop) (xs : List Nat) (W : World) : Exit → Act → World → Prop
  | .normal, _, W' => KeepsOthers W W' ∧ W'.heap[B]? = W.heap[B]? ∧ I xs W'
  | _, _, _ => False
/-- What an iterator over the places of a list owes, whose state lies in block B. -/
def CapIter (F : Fence) (n : Nat) (P : Program) (gf : Nat) (lb : Array Value) (B : Nat) (xs : List Nat) (T : World → Prop) (w : World) : Prop :=
  ∀ (l : Nat) (J : List Nat → World → Prop) (W : World), W.heap[B]? = w.heap[B]? → (∀ s A, J s A → T A) → (∀ s A v, J s A → J s (A.setCell ⟨B, 0, none⟩ v)) →
    (∀ pre x W1, J pre W1 → (pre ++ [x]) <+: xs → YieldAt F (n - 1) P l #[.int .i64 (x : Nat)] W1 fun e W' => e = .returned (.bool true) ∧ J (pre ++ [x]) W' ∧ W'.heap[B]? = W1.heap[B]?) → J [] W →
    CallsIn F n P gf (#[.func (.yield l) #[] #[]] ++ lb) W fun e W' => (∃ v, e = .returned v) ∧ J xs W'
theorem range_cap {g : Operand} {p : Tmp} {assign body : Code} {Q : Exit → Act → World → Prop} {a : Act} {w : World}
    (hro : F.round = none) (h1 : 1 ≤ n) {gf : Nat} {lb : Array Value} (hg : a.eval g = .func (.func gf) #[] lb) (hFg : F.fn gf) (eg : ∀ args w, (callFunc gf args).run P w = .ok (.enter gf args) w)
    {B : Nat} {xs : List Nat} {T : World → Prop} (hB : B < w.heap.size) (hit : CapIter F (n - 1) P gf lb B xs T w)
    (I : List Nat → World → Prop) (hI : OwnFrom w.heap.size I) (hset : ∀ s A v, I s A → I s (A.setCell ⟨B, 0, none⟩ v)) (h0 : I [] w) (hIT : ∀ s A, I s A → T A) (a₁ : Nat → Act)
    (hassign : ∀ (l x : Nat) (W : World) (K : Act → World → Prop), K (a₁ x) W →
      assign.wpIn (F.inRound l) (n - 1 - 1) P (Exit.then K (fun _ _ _ => False)) { tmps := ((#[p] : Array Tmp).zip #[Value.int .i64 (x : Nat)]).foldl (fun t (p, v) => t.setIfInBounds p v) a.tmps, defers := [] } W)
    (hbody : ∀ (l : Nat) (pre : List Nat) (x : Nat) (W : World), I pre W → (pre ++ [x]) <+: xs → body.wpIn (F.inRound l) (n - 1 - 1) P (capPost B I (pre ++ [x]) W) (a₁ x) W)
    (hdone : ∀ (D : Nat) (W : World), w.heap.size ≤ D → I xs W → W.heap[D]? = some (.deferred (some [])) → Q .normal { a with defers := { target := .collected D, args := #[] } :: a.defers } W) :
    (Code.rangeFunc g #[p] assign body).wpIn F n P Q a w := by
  refine wpIn_rangeFunc ?_
  intro fn hfn
  rw [hro]
  obtain ⟨rec, hrec⟩ : ∃ rec : LoopState → Option Code → Loop, rec = fun st pe => { state := st, pending := pe, fn, tmps := a.tmps, params := #[p], assign, body, defers := w.heap.size } := ⟨_, rfl⟩
  obtain ⟨W1, hW1⟩ : ∃ W1, (w.alloc (.deferred (some []))).alloc (.loop (rec .ready none)) = W1 := ⟨_, rfl⟩
  have hl1 : W1.heap[w.heap.size + 1]? = some (.loop (rec .ready none)) := by
    have := World.alloc_heap_new (w.alloc (.deferred (some []))) (.loop (rec .ready none))
    rw [World.size_alloc] at this
    rw [← hW1]; exact this
  have hk1 : W1.heap[w.heap.size]? = some (.deferred (some [])) := by
    rw [← hW1]; exact (Below.heap_alloc _ _ _ (by simp)).trans (World.alloc_heap_new w _)
  have hb1 : W1.heap[B]? = w.heap[B]? := by
    rw [← hW1]; exact (Below.heap_alloc _ _ _ (by simp; omega)).trans (Below.heap_alloc _ _ _ hB)
  have hi1 : I [] W1 := by rw [← hW1]; exact hI.alloc _ (hI.alloc _ h0)
  refine ⟨w.heap.size + 1, [{ target := .collected w.heap.size, args := #[] }], W1, { target := .fn (.func gf) lb, args := #[.func (.yield (w.heap.size + 1)) #[] #[]] }, W1, gf, #[.func (.yield (w.heap.size + 1)) #[] #[]] ++ lb, W1, ?_, ?_, ?_, ?_, fun _ => h1, ?_⟩
  · rw [← hW1, hrec]; exact run_enterLoop_outer _ _ _ _ _
  · simp only [resolve, hg]; simp [go_sem]
  · intro f' hf'; simp [Target.leads] at hf'; subst hf'; exact hFg
  · simp [invoke, go_sem, eg]
  · refine (hit (w.heap.size + 1) (fun pre W => I pre W ∧ W.heap[w.heap.size + 1]? = some (.loop (rec .ready none)) ∧ W.heap[w.heap.size]? = some (.deferred (some []))) W1 hb1 (fun s A h => hIT s A h.1) ?_ ?_ ⟨hi1, hl1, hk1⟩).mono ?_
    · intro s A v ⟨i1, i2, i3⟩
      exact ⟨hset s A v i1, (Below.heap_setCell A ⟨B, 0, none⟩ v _ (by simp; omega)).trans i2, (Below.heap_setCell A ⟨B, 0, none⟩ v _ (by simp; omega)).trans i3⟩
    · intro pre x W ⟨i1, i2, i3⟩ hpx
      have hlt : w.heap.size + 1 < W.heap.size := (Array.getElem?_eq_some_iff.1 i2).1
      have hy := run_yield (P := P) (args := #[.int .i64 (x : Nat)]) i2 (by rw [hrec]; rfl)
      rw [hrec] at hy
      refine ⟨fn, _, assign, body, hy, roundIn_of_wpIn hfn (hassign _ x W _ ⟨_, run_beginRound i2 (by rw [hrec]), ?_⟩)⟩
      have j2 : (W.putObj (w.heap.size + 1) (.loop { rec .ready none with state := .busy })).heap[w.heap.size + 1]? = some (.loop { rec .ready none with state := .busy }) := World.putObj_heap_same hlt
      have j3 : (W.putObj (w.heap.size + 1) (.loop { rec .ready none with state := .busy })).heap[w.heap.size]? = some (.deferred (some [])) := (World.putObj_heap_other (by omega)).trans i3
      have j4 : (W.putObj (w.heap.size + 1) (.loop { rec .ready none with state := .busy })).heap[B]? = W.heap[B]? := World.putObj_heap_other (by omega)
      refine wpIn_mono (hbody _ pre x _ (hI.putObj _ i1 (by omega) i2 rfl) hpx) ?_
      rintro e a3 W3 hp
      cases e <;> first | exact hp.elim | skip
      obtain ⟨hk3, hB3, hi3⟩ := hp
      have l3 := hk3.same _ _ j2 rfl
      have hr := run_endRound (P := P) none l3
      refine ⟨_, _, hr, rfl, ⟨hI.putObj _ hi3 (by omega) l3 rfl, ?_, (World.putObj_heap_other (by omega)).trans (hk3.same _ _ j3 rfl)⟩, (World.putObj_heap_other (by omega)).trans (hB3.trans j4)⟩
      have := World.putObj_heap_same (w := W3) (o := .loop { rec .ready none with state := .ready, pending := none }) (Array.getElem?_eq_some_iff.1 l3).1
      rw [hrec] at this ⊢
      exact this
    · rintro e W2 ⟨⟨v, rfl⟩, i1, i2, i3⟩
      have hend := run_endLoop (P := P) i2 (by rw [hrec]; simp)
      rw [hrec] at hend
      exact ⟨none, _, hend, hdone _ _ (Nat.le_refl _) (hI.putObj _ i1 (by omega) i2 rfl) ((World.putObj_heap_other (by omega)).trans i3)⟩
end
end Go.Proofs.Ytjhhfininnlkfaa
