/- The tree of three that the statements begin with. -/
import Derived.Test.YtjhhfininnlkfaaTree
namespace Go.Proofs.Ytjhhfininnlkfaa
open Go.RowKit Go.WideShapes Go.ChangeShapes
set_option linter.unusedVariables false
set_option linter.unusedSimpArgs false





def rootN (k : Int) : List Int := k :: List.replicate 31 0
theorem rootN_ok {k : Int} (h : 0 ≤ k ∧ k ≤ 255) : RootOk (rootN k) := by
  refine ⟨rfl, fun x hx => ?_⟩
  unfold rootN at hx
  rcases List.mem_cons.1 hx with rfl | hx
  · simp [Lit.wf, IntKind.min, IntKind.max, IntKind.signed, IntKind.bits]; omega
  · rw [(List.mem_replicate.1 hx).2]; decide
theorem NL.made {w : World} {B n : Nat} {cs : Array Value} {NS : List Node} (hB : B = w.heap.size) (hz : cs.size = n * 35) (hf : cs.toList = flatN NS) (hn : n ≤ 1000) (hl : NS.length = n) (hok : ∀ x ∈ NS, x.Ok) : NL (w.alloc (.cells cs 53)) (some ⟨B, 0, none⟩) n n NS := by
  subst hB
  have ho : (w.alloc (.cells cs 53)).ownsRow w.heap.size 53 35 (.slice (some ⟨w.heap.size, 0, none⟩) n n) n (flatN NS) :=
    ⟨by rw [← hf]; simpa using hz, .inr ⟨_, n, cs, rfl, Nat.le_refl _, heap_alloc_new w _, Nat.le_refl _, by unfold maxLen; omega, hz, by rw [hf, List.take_of_length_le (by rw [← hf]; simp [hz])]⟩⟩
  obtain ⟨A, c, e, h, _⟩ := NL.own ho (by omega) hl hok
  obtain ⟨rfl, rfl⟩ : some (⟨w.heap.size, 0, none⟩ : Addr) = A ∧ n = c := by simpa using e
  exact h















end Go.Proofs.Ytjhhfininnlkfaa
