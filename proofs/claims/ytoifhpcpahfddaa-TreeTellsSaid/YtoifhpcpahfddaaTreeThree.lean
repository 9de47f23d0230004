/- The tree of three that the statements begin with. -/
import Derived.Test.YtoifhpcpahfddaaTree
namespace Go.Proofs.Ytoifhpcpahfddaa
open Go.RowKit Go.WideShapes Go.ChangeShapes
set_option linter.unusedVariables false
set_option linter.unusedSimpArgs false





def rootN (k : Int) : List Int := k :: List.replicate 31 0
theorem rootN_ok {k : Int} (h : 0 ≤ k ∧ k ≤ 255) : RootOk (rootN k) := by
  refine ⟨rfl, fun x hx => ?_⟩
  unfold rootN at hx
  rcases List.mem_cons.1 hx with rfl | hx
  · simp [Lit.wf, IntKind.min, IntKind.max, IntKind.signed, IntKind.bits]; omega
  · rw [(List.mem_replicate.1 hx).2]; decide
theorem NL.made {w : World} {B n : Nat} {cs : Array Value} {NS : List Node} (hB : B = w.heap.size) (hz : cs.size = n * 35) (hf : cs.toList = flatN NS) (hn : n ≤ 1000) (hl : NS.length = n) (hok : ∀ x ∈ NS, x.Ok) : NL (w.alloc (.cells cs 34)) (some ⟨B, 0, none⟩) n n NS := by
  subst hB
  have ho : (w.alloc (.cells cs 34)).ownsRow w.heap.size 34 35 (.slice (some ⟨w.heap.size, 0, none⟩) n n) n (flatN NS) :=
    ⟨by rw [← hf]; simpa using hz, .inr ⟨_, n, cs, rfl, Nat.le_refl _, heap_alloc_new w _, Nat.le_refl _, by unfold maxLen; omega, hz, by rw [hf, List.take_of_length_le (by rw [← hf]; simp [hz])]⟩⟩
  obtain ⟨A, c, e, h, _⟩ := NL.own ho (by omega) hl hok
  obtain ⟨rfl, rfl⟩ : some (⟨w.heap.size, 0, none⟩ : Addr) = A ∧ n = c := by simpa using e
  exact h
def T3 : List Node := [⟨rootN 1, -1, 0, 0⟩, ⟨rootN 2, 0, 3, 0⟩, ⟨rootN 3, 1, 5, 0⟩]
theorem T3_ok : ∀ x ∈ T3, x.Ok := by
  intro x hx
  unfold T3 at hx
  simp at hx
  rcases hx with rfl | rfl | rfl
  · exact ⟨rootN_ok (by decide), by decide, by decide, by decide⟩
  · exact ⟨rootN_ok (by decide), by decide, by decide, by decide⟩
  · exact ⟨rootN_ok (by decide), by decide, by decide, by decide⟩
set_option maxRecDepth 100000 in
theorem three_any (w : World) : Calls Try.prog 31 #[] w fun e w' => (∃ A c, e = .returned (.agg #[.slice A 3 c]) ∧ NL w' A 3 c T3) ∧ Ext w w' := by
  go_enter Try.func31, Try.ntmps31
  go_wp2
  refine bodyPost_ret (v := .agg #[.slice (some ⟨w.heap.size + 1, 0, none⟩) 3 3]) (by simp (maxDischargeDepth := 7) [results, Try.results31, go_sem]) rfl ⟨⟨_, _, rfl, ?_⟩, (by repeat (first | assumption | exact Ext.refl _ | refine Ext.alloc ?_ _ | refine Ext.drew ?_ | refine Ext.drewN ?_ _ | refine Ext.setCell ?_ (by first | (simp; done) | omega | (simp; omega)) _ | refine Ext.trans (by assumption) ?_))⟩
  exact NL.made (by simp) rfl rfl (by omega) rfl T3_ok
end Go.Proofs.Ytoifhpcpahfddaa
