/- Arguments that are roots. -/
import Derived.Test.YtamibbcdklpncaaWOpen
import Derived.Test.YtamibbcdklpncaaLat
namespace Go.Proofs.Ytamibbcdklpncaa
open Go.RowKit Go.WideShapes Go.ChangeShapes Go.Joins Go.Deep
set_option linter.unusedVariables false
set_option linter.unusedSimpArgs false

theorem reads_root : Reads Try.prog 23 rootC RootOk := reads_array Try.underlying23 Try.underlying5 (by kernel_rfl) (by kernel_rfl)
theorem open_root {H : Type} {enc : TypeId × Value → H} {w : World} {b0 : Nat} {r : Reach} {v : Value} {d : DataW H} {ps : List MemPlace} (hval : Value.okWide Try.prog w r b0 23 v) (h : DataW.Trod enc Try.prog w 0 (fun _ => true) true 23 v d ps) : ∃ y, v = .agg (rootC y).toArray ∧ RootOk y :=
  open_agg reads_root (okWide_array Try.underlying23 hval) h
theorem root_one (r : List Int) : ∀ u ∈ rootC r, u.oneCell' = true := by
  intro u hu
  obtain ⟨y, _, rfl⟩ := List.mem_map.1 hu
  rfl
end Go.Proofs.Ytamibbcdklpncaa
