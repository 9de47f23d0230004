/- Arguments of layer 12: roots, votes, slices of roots. -/
import Derived.Test.YtjhhfininnlkfaaRootOpen
import Derived.Test.YtjhhfininnlkfaaVote
namespace Go.Proofs.Ytjhhfininnlkfaa
open Go.RowKit Go.WideShapes Go.ChangeShapes Go.Joins Go.Deep
set_option linter.unusedVariables false
set_option linter.unusedSimpArgs false

























theorem reads_lat : Reads Try.prog 40 Lat.cells Lat.Ok := by
  intro H enc w fuel cs x h
  obtain ⟨y0, y1, y2, n, _, hl, h0, h1, h2⟩ := trod_struct3 Try.underlying40 h
  have c0 : Try.prog.cellsOf 40 = 34 := by kernel_rfl
  have c1 : Try.prog.cellsOf 4 = 1 := by kernel_rfl
  have c2 : Try.prog.cellsOf 38 = 32 := by kernel_rfl
  have c3 : Try.prog.cellsOf 26 = 1 := by kernel_rfl
  simp only [c0, c1, c2, c3] at hl h0 h1 h2
  obtain ⟨b, e0, _⟩ := reads_bool Try.underlying4 _ _ _ _ _ _ h0
  obtain ⟨r, e1, hr⟩ := reads_root _ _ _ _ _ _ h1
  obtain ⟨e, e2, _, he⟩ := DataW.trod_int Try.underlying26 h2
  obtain ⟨q, rfl⟩ := Int.eq_ofNat_of_zero_le (bounds_u64 he).1
  refine ⟨⟨b, r, q⟩, ?_, hr, by have := (bounds_u64 he).2; show q < _; omega⟩
  unfold Lat.cells
  show cs = [.bool b] ++ rootC r ++ [.int .u64 q]
  have E0 : cs.take 1 = [.bool b] := e0
  have e3 : cs.drop 33 = [.int .u64 q] := by rw [← e2, List.take_of_length_le (by simp; omega)]
  rw [← E0, ← e1, ← e3, List.append_assoc, show (33 : Nat) = 1 + 32 from rfl, ← List.drop_drop, List.take_append_drop, List.take_append_drop]
theorem open_votes {H : Type} {enc : TypeId × Value → H} {w : World} {b0 : Nat} {r : Reach} {v : Value} {d : DataW H} {ps : List MemPlace} {ts : List TypeId} {ds : List (DataW H)} {j : Nat} (hval : Value.okWide Try.prog w r b0 28 v) (h : DataW.Trod enc Try.prog w 0 (fun _ => true) true 28 v d ps)
    (hsz : (DataW.weightsEach Try.prog ts ds).all (· ≤ reachBytes) = true) (htj : ts[j]? = some 28) (hdj : ds[j]? = some d) : ∃ A n c LS o, v = .agg #[.slice A n c, .int .u64 (o : Nat)] ∧ VL w A n c LS ∧ o < 18446744073709551616 := by
  obtain ⟨v0, v1, y0, y1, n, rfl, rfl, _, t0, t1⟩ := open_agg2 Try.underlying28 (by kernel_rfl) (by kernel_rfl) hval h
  obtain ⟨z, e0, x0, w0⟩ := DataW.trod_int Try.underlying26 t1
  simp at e0
  subst e0
  obtain ⟨o, rfl⟩ := Int.eq_ofNat_of_zero_le (bounds_u64 w0).1
  have hw := weights_le hsz htj hdj
  obtain ⟨A, m, c, ys, rfl, hr, hok, hb⟩ := inner_wide (size := 34) (bytes := 48) Try.underlying25 reads_lat (by kernel_rfl) (by omega) (by kernel_rfl) (by omega) (fun y hy => ⟨Lat.len hy, Lat.one y⟩) t0 (fun q hq => hw q (by simp only [DataW.weights, Try.underlying28, List.map_cons, List.map_nil, DataW.weightsEach, List.mem_append, Array.toList]; exact .inl hq))
  have hc := hr.cap
  exact ⟨A, m, c, ys, o, rfl, ⟨hr, hok, by have := Nat.mul_le_mul_right 48 hc; omega⟩, by have := (bounds_u64 w0).2; omega⟩
end Go.Proofs.Ytjhhfininnlkfaa
