/- Arguments that are roots. -/
import Derived.Test.YtjhhfininnlkfaaDoorWOpen
import Derived.Test.YtjhhfininnlkfaaDoorLat
namespace Go.Proofs.YtjhhfininnlkfaaDoor
open Go.RowKit Go.WideShapes Go.ChangeShapes Go.Joins Go.Deep
set_option linter.unusedVariables false
set_option linter.unusedSimpArgs false

theorem reads_root : Reads Tryd.prog 34 rootC RootOk := reads_array Tryd.underlying34 Tryd.underlying5 (by kernel_rfl) (by kernel_rfl)
theorem open_root {H : Type} {enc : TypeId × Value → H} {w : World} {b0 : Nat} {r : Reach} {v : Value} {d : DataW H} {ps : List MemPlace} (hval : Value.okWide Tryd.prog w r b0 34 v) (h : DataW.Trod enc Tryd.prog w 0 (fun _ => true) true 34 v d ps) : ∃ y, v = .agg (rootC y).toArray ∧ RootOk y :=
  open_agg reads_root (okWide_array Tryd.underlying34 hval) h
theorem root_one (r : List Int) : ∀ u ∈ rootC r, u.oneCell' = true := by
  intro u hu
  obtain ⟨y, _, rfl⟩ := List.mem_map.1 hu
  rfl
end Go.Proofs.YtjhhfininnlkfaaDoor
