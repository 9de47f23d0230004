/- Arguments of layer 12: roots, votes, slices of roots. -/
import Derived.Test.YtamibbcdklpncaaRootOpen

namespace Go.Proofs.Ytamibbcdklpncaa
open Go.RowKit Go.WideShapes Go.ChangeShapes Go.Joins Go.Deep
set_option linter.unusedVariables false
set_option linter.unusedSimpArgs false

/-- Roots' elements, as they lie. -/
structure RL (w : World) (A : Option Addr) (n c : Nat) (RS : List (List Int)) : Prop where
  row : WRow w 32 A n c (RS.map rootC)
  ok : ∀ x ∈ RS, RootOk x
  bytes : n * 32 ≤ 140737488351232
namespace RL
variable {w w' : World} {A : Option Addr} {n c : Nat} {RS : List (List Int)}
theorem ext (h : RL w A n c RS) (hx : Ext w w') : RL w' A n c RS := ⟨h.row.ext hx, h.ok, h.bytes⟩
theorem len (h : RL w A n c RS) : RS.length = n := by have := h.row.len; simpa using this
theorem at' (h : RL w A n c RS) {i : Nat} (hi : i < n) : ∃ b off, A = some ⟨b, off, none⟩ ∧ w.rangeAt b (off + i * 32) (rootC (RS.getD i zeroR)) ∧ RootOk (RS.getD i zeroR) := by
  have hl := h.len
  obtain ⟨b, off, e, hc⟩ := h.row.cells (by omega)
  refine ⟨b, off, e, ?_, h.ok _ (by simp [List.getD, show i < RS.length by omega])⟩
  have := hc i hi
  simpa [List.getD, show i < RS.length by omega] using this
end RL
theorem open_roots {H : Type} {enc : TypeId × Value → H} {w : World} {b0 : Nat} {r : Reach} {v : Value} {d : DataW H} {ps : List MemPlace} {ts : List TypeId} {ds : List (DataW H)} {j : Nat} (hval : Value.okWide Try.prog w r b0 24 v) (h : DataW.Trod enc Try.prog w 0 (fun _ => true) true 24 v d ps)
    (hsz : (DataW.weightsEach Try.prog ts ds).all (· ≤ reachBytes) = true) (htj : ts[j]? = some 24) (hdj : ds[j]? = some d) : ∃ A n c RS, v = .slice A n c ∧ RL w A n c RS := by
  obtain ⟨a0, len, cap, rfl⟩ := okWide_slice Try.underlying24 hval
  obtain ⟨fuel, hf⟩ := h
  have hf' : DataW.trod enc Try.prog w 0 (fun _ => true) true fuel 24 [.slice a0 len cap] = some (d, ps) := by simpa [Value.cells] using hf
  obtain ⟨A, n, c, ys, e, hr, hok, hb⟩ := inner_wide (size := 32) (bytes := 32) Try.underlying24 reads_root (by kernel_rfl) (by omega) (by kernel_rfl) (by omega) (fun y hy => ⟨rootC_len hy, root_one y⟩) hf' (weights_le hsz htj hdj)
  have hc := hr.cap
  exact ⟨A, n, c, ys, e, hr, hok, by have := Nat.mul_le_mul_right 32 hc; omega⟩





























end Go.Proofs.Ytamibbcdklpncaa
