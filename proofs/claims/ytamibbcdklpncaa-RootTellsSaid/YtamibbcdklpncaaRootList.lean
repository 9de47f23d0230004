/- root.Sort: roots in order, each once. -/
import Derived.Test.YtamibbcdklpncaaRootSort
import Derived.Test.YtamibbcdklpncaaLatOpen
namespace Go.Proofs.Ytamibbcdklpncaa
open Go.RowKit Go.WideShapes Go.ChangeShapes
set_option linter.unusedVariables false
set_option linter.unusedSimpArgs false


theorem rowRoots : RowT Try.prog 24 23 32 32 := RowT.mk' (z := .agg (rootC zeroR).toArray) Try.underlying24 (by kernel_rfl) rfl (by omega) (by omega)
def zRoot : Array Value := (rootC zeroR).toArray
theorem zRoot_size : zRoot.size = 32 := rfl
theorem zRoot_ne : ¬ zRoot = #[] := fun h => by have := congrArg Array.size h; rw [zRoot_size] at this; cases this
theorem zeroRoot (w : World) : Sem.run Try.prog (zeroValue 23) w = .ok (.agg zRoot) w := by kernel_rfl
set_option maxRecDepth 100000 in
/-- A slice of one root. -/
theorem wp_buildR {op : Oper} {a : Act} {w : World} {K : Act → World → Prop} {Q : Exit → Act → World → Prop} (y : Nat) (ho : op.op = .buildSlice 24 1 #[(0, .tmp y)]) (cs : List Value) (hy' : a.eval (.tmp y) = .agg cs.toArray) (hl : cs.length = 32)
    (h : K (a.put op.dst (.slice (some ⟨w.heap.size, 0, none⟩) 1 1)) (w.alloc (.cells cs.toArray 23))) : op.wp Try.prog a w K Q := by
  have hzn := zeroRoot
  have hzs := zRoot_size
  have hze := zRoot_ne
  have hy : a.tmps[y]?.getD undef = .agg cs.toArray := by simpa [Act.eval] using hy'
  unfold Oper.wp execOp
  simp only [ho]
  go_simp
  rw [fold_put0 (by rw [hl]; rfl)]
  exact h
theorem wpList_buildR {ops : Array Oper} {rest : List Oper} {op : Oper} {a : Act} {w : World} {Q : Exit → Act → World → Prop} (hgd : op.guard = none) (y : Nat) (ho : op.op = .buildSlice 24 1 #[(0, .tmp y)]) (cs : List Value) (hy : a.eval (.tmp y) = .agg cs.toArray) (hl : cs.length = 32) (B : Nat) (hB : B = w.heap.size)
    (h : wpList Try.prog ops Q rest (a.put op.dst (.slice (some ⟨B, 0, none⟩) 1 1)) (w.alloc (.cells cs.toArray 23))) : wpList Try.prog ops Q (op :: rest) a w :=
  wpList_plain hgd fun _ hK => wp_buildR y ho cs hy hl (hB ▸ hK _ _ h)
namespace Root
def addR (S : List (List Int)) (r : List Int) : List (List Int) := if r ∈ S then S else S ++ [r]
/-- Each one once, where it came first. -/
def ddV (R : List (List Int)) : List (List Int) := R.foldl addR []
theorem dd_snoc (R : List (List Int)) (r : List Int) : ddV (R ++ [r]) = addR (ddV R) r := by unfold ddV; rw [List.foldl_append]; rfl
theorem mem_add {S : List (List Int)} {r x : List Int} : x ∈ addR S r ↔ x ∈ S ∨ x = r := by
  unfold addR
  split
  · rename_i h
    constructor
    · exact Or.inl
    · rintro (h | rfl) <;> assumption
  · simp
theorem mem_fold : ∀ (R S : List (List Int)) (x : List Int), x ∈ R.foldl addR S ↔ x ∈ S ∨ x ∈ R
  | [], S, x => by simp
  | r :: R, S, x => by rw [List.foldl_cons, mem_fold R, mem_add, List.mem_cons, or_assoc]
theorem mem_dd {R : List (List Int)} {x : List Int} : x ∈ ddV R ↔ x ∈ R := by unfold ddV; rw [mem_fold]; simp
theorem nodup_fold : ∀ (R S : List (List Int)), S.Nodup → (R.foldl addR S).Nodup
  | [], S, h => h
  | r :: R, S, h => by
    rw [List.foldl_cons]
    refine nodup_fold R _ ?_
    unfold addR
    split
    · exact h
    · rename_i hr
      rw [List.nodup_append]
      exact ⟨h, by simp, fun a ha b hb e => by rw [List.mem_singleton.1 hb] at e; exact hr (e ▸ ha)⟩
theorem dd_nodup (R : List (List Int)) : (ddV R).Nodup := nodup_fold R [] List.nodup_nil
theorem fold_len : ∀ (R S : List (List Int)), (R.foldl addR S).length ≤ S.length + R.length
  | [], S => by simp
  | r :: R, S => by
    rw [List.foldl_cons]
    have := fold_len R (addR S r)
    have h2 : (addR S r).length ≤ S.length + 1 := by unfold addR; split <;> simp
    simp; omega
theorem dd_len (R : List (List Int)) : (ddV R).length ≤ R.length := by have := fold_len R []; unfold ddV; simpa using this
def sortV (R : List (List Int)) : List (List Int) := sortL (ddV R)
theorem mem_sortL {R : List (List Int)} {x : List Int} : x ∈ sortL R ↔ x ∈ R := by unfold sortL; exact List.mem_mergeSort
theorem sortL_len (R : List (List Int)) : (sortL R).length = R.length := by unfold sortL; simp
theorem mem_sortV {R : List (List Int)} {x : List Int} : x ∈ sortV R ↔ x ∈ R := by unfold sortV; rw [mem_sortL, mem_dd]
end Root
theorem take_root {R : List (List Int)} {k : Nat} (h : k < R.length) : Root.ddV (R.take (k + 1)) = Root.addR (Root.ddV (R.take k)) (R.getD k zeroR) := by
  rw [List.take_add_one, ← Root.dd_snoc]; simp [List.getD, h]
theorem flat_snoc (S : List (List Int)) (r : List Int) : ((S ++ [r]).map rootC).flatten = (S.map rootC).flatten ++ rootC r := by simp
theorem BMap.keeps {w w' : World} {B n : Nat} {R : List (List Int)} {D : DataW Unit} (h : BMap w B n R D) {row : Option Nat} (hg : w.grownBy w' row) (hne : row ≠ some B) : BMap w' B n R D :=
  ⟨h.own.kept hg (fun e => hne (by simpa using e.symm)), h.has⟩
/-- The world while roots are gathered: block B is the set, v the slice. -/
structure GathR (w W : World) (B : Nat) (v : Value) (S : List (List Int)) : Prop where
  ext : Ext w W
  set : ∃ D, BMap W B S.length S D
  own : W.ownsRow (B + 1) 23 32 v S.length (S.map rootC).flatten
  lt : B < W.heap.size
end Go.Proofs.Ytamibbcdklpncaa
