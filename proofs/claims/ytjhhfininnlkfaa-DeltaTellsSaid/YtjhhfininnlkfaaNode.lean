/- api.Node: a block's four fields as cells; '==' of two; slices of them, trees. -/
import Derived.Test.YtjhhfininnlkfaaRootOpen
namespace Go.Proofs.Ytjhhfininnlkfaa
open Go.RowKit Go.WideShapes Go.ChangeShapes Go.Joins Go.Deep
set_option linter.unusedVariables false
set_option linter.unusedSimpArgs false

structure Node where
  root : List Int
  par : Int
  slot : Nat
  just : Nat
namespace Node
def Ok (x : Node) : Prop := RootOk x.root ∧ (Lit.int .i64 x.par).wf = true ∧ x.slot < 18446744073709551616 ∧ x.just < 18446744073709551616
def cells (x : Node) : List Value := rootC x.root ++ [Value.int .i64 x.par, Value.int .u64 x.slot, Value.int .u64 x.just]
def zero : Node := ⟨zeroR, 0, 0, 0⟩
theorem zero_ok : zero.Ok := ⟨zeroR_ok, by decide, by decide, by decide⟩
theorem len {x : Node} (h : x.Ok) : x.cells.length = 35 := by unfold cells; simp [rootC_len h.1]
theorem one (x : Node) : ∀ u ∈ x.cells, u.oneCell' = true := by
  intro u hu
  unfold cells rootC at hu
  simp at hu
  rcases hu with ⟨y, _, rfl⟩ | rfl | rfl | rfl <;> rfl
theorem inj {x y : Node} (hx : x.Ok) (hy : y.Ok) : x.cells.toArray = y.cells.toArray ↔ x = y := by
  constructor
  · intro h
    have h' : x.cells = y.cells := by simpa using h
    unfold cells at h'
    have h2 := List.append_inj h' (by rw [rootC_len hx.1, rootC_len hy.1])
    obtain ⟨r, p, s, j⟩ := x
    obtain ⟨r', p', s', j'⟩ := y
    have e2 : r = r' := rootC_inj.1 (by simpa using h2.1)
    have e3 := h2.2
    simp at e3
    obtain ⟨e3, e4, e5⟩ := e3
    have e4 : s = s' := by omega
    have e5 : j = j' := by omega
    subst e2; subst e3; subst e4; subst e5
    rfl
  · rintro rfl; rfl
def eqb (x y : Node) : Bool := decide (x.root = y.root) && decide (x.par = y.par) && decide (x.slot = y.slot) && decide (x.just = y.just)
theorem eqb_iff {x y : Node} : x.eqb y = true ↔ x = y := by
  obtain ⟨r, p, s, j⟩ := x
  obtain ⟨r', p', s', j'⟩ := y
  unfold eqb
  simp [and_assoc]
instance : DecidableEq Node := fun x y => decidable_of_iff _ (@eqb_iff x y)
theorem keyT : KeyT Try.prog 53 := ⟨by kernel_rfl, by kernel_rfl, by kernel_rfl, by kernel_rfl⟩
theorem lits (d : Nat) {x : Node} (h : x.Ok) : ∃ L, Try.prog.keyLits (d + 3) 53 x.cells = some L := by
  have c0 : Try.prog.cellsOf 53 = 35 := by kernel_rfl
  have c1 : Try.prog.cellsOf 38 = 32 := by kernel_rfl
  have c2 : Try.prog.cellsOf 3 = 1 := by kernel_rfl
  have c3 : Try.prog.cellsOf 26 = 1 := by kernel_rfl
  have hl := len h
  have hr := rootC_len h.1
  unfold Program.keyLits
  rw [Try.underlying53]
  simp only [hl, c0]
  rw [if_pos ⟨trivial, by decide +kernel⟩]
  have f1 : (x.cells.drop 0).take (Try.prog.cellsOf 38) = rootC x.root := by rw [c1]; unfold cells; simp [← hr]
  have f2 : (x.cells.drop 32).take (Try.prog.cellsOf 3) = [Value.int .i64 x.par] := by
    rw [c2]; unfold cells
    rw [← hr, List.drop_left]; rfl
  have f3 : (x.cells.drop 33).take (Try.prog.cellsOf 26) = [Value.int .u64 x.slot] := by
    rw [c3]; unfold cells
    rw [show (33 : Nat) = (rootC x.root).length + 1 by rw [hr], List.drop_append, List.drop_of_length_le (by omega)]
    simp
  have f4 : (x.cells.drop 34).take (Try.prog.cellsOf 26) = [Value.int .u64 x.just] := by
    rw [c3]; unfold cells
    rw [show (34 : Nat) = (rootC x.root).length + 2 by rw [hr], List.drop_append, List.drop_of_length_le (by omega)]
    simp
  have g1 := root_lits d h.1
  have g2 : Try.prog.keyLits (d + 2) 3 [Value.int .i64 x.par] = some [.int .i64 x.par] := lits_int Try.underlying3 (d + 1) h.2.1
  have g3 : Try.prog.keyLits (d + 2) 26 [Value.int .u64 x.slot] = some [.int .u64 x.slot] := lits_int Try.underlying26 (d + 1) (by have := h.2.2.1; simp [Lit.wf, IntKind.min, IntKind.max, IntKind.signed, IntKind.bits]; omega)
  have g4 : Try.prog.keyLits (d + 2) 26 [Value.int .u64 x.just] = some [.int .u64 x.just] := lits_int Try.underlying26 (d + 1) (by have := h.2.2.2; simp [Lit.wf, IntKind.min, IntKind.max, IntKind.signed, IntKind.bits]; omega)
  simp only [List.mapM_cons, List.mapM_nil, f1, f2, f3, f4, g1, g2, g3, g4]
  exact ⟨_, rfl⟩
theorem keyed {x : Node} (h : x.Ok) : Keyed Try.prog 53 (.agg x.cells.toArray) := by
  obtain ⟨L, hL⟩ := lits (Try.prog.types.size - 2) h
  refine keyed_of (by kernel_rfl) (by kernel_rfl) ?_ hL
  unfold Value.formed
  rw [Try.underlying53]
  simp only [List.size_toArray, len h]
  kernel_rfl
theorem neq {x y : Node} (h : x.Ok) (g : y.Ok) {b : Bool} (e : b = true ↔ x = y) (w : World) : (binOp .neq 53 (.agg x.cells.toArray) (.agg y.cells.toArray)).run Try.prog w = .ok (.bool (!b)) w :=
  run_neq_key keyT (keyed h) (keyed g) (by rw [e]; simp only [Value.agg.injEq]; exact (inj h g).symm) w
theorem eql {x y : Node} (h : x.Ok) (g : y.Ok) {b : Bool} (e : b = true ↔ x = y) (w : World) : (binOp .eql 53 (.agg x.cells.toArray) (.agg y.cells.toArray)).run Try.prog w = .ok (.bool b) w :=
  run_eql_key keyT (keyed h) (keyed g) (by rw [e]; simp only [Value.agg.injEq]; exact (inj h g).symm) w
theorem at32 {x : Node} (h : x.Ok) : x.cells[32]? = some (.int .i64 x.par) := by
  unfold cells
  rw [List.getElem?_append_right (by simp [rootC_len h.1])]
  simp [rootC_len h.1]
theorem at33 {x : Node} (h : x.Ok) : x.cells[33]? = some (.int .u64 x.slot) := by
  unfold cells
  rw [List.getElem?_append_right (by simp [rootC_len h.1])]
  simp [rootC_len h.1]
theorem at34 {x : Node} (h : x.Ok) : x.cells[34]? = some (.int .u64 x.just) := by
  unfold cells
  rw [List.getElem?_append_right (by simp [rootC_len h.1])]
  simp [rootC_len h.1]
end Node
/-- A tree's nodes, as they lie. -/
structure NL (w : World) (A : Option Addr) (n c : Nat) (NS : List Node) : Prop where
  row : WRow w 35 A n c (NS.map Node.cells)
  ok : ∀ x ∈ NS, x.Ok
  bytes : n * 56 ≤ 140737488355328
namespace NL
variable {w w' : World} {A : Option Addr} {n c : Nat} {NS : List Node}
theorem ext (h : NL w A n c NS) (hx : Ext w w') : NL w' A n c NS := ⟨h.row.ext hx, h.ok, h.bytes⟩
theorem len (h : NL w A n c NS) : NS.length = n := by have := h.row.len; simpa using this
theorem at' (h : NL w A n c NS) {i : Nat} (hi : i < n) : ∃ b off, A = some ⟨b, off, none⟩ ∧ w.rangeAt b (off + i * 35) (NS.getD i Node.zero).cells ∧ (NS.getD i Node.zero).Ok := by
  have hl := h.len
  obtain ⟨b, off, e, hc⟩ := h.row.cells (by omega)
  refine ⟨b, off, e, ?_, h.ok _ (by simp [List.getD, show i < NS.length by omega])⟩
  have := hc i hi
  simpa [List.getD, show i < NS.length by omega] using this
theorem okAt (h : NL w A n c NS) (i : Nat) : (NS.getD i Node.zero).Ok := by
  by_cases hi : i < NS.length
  · exact h.ok _ (by simp [List.getD, hi])
  · simp [List.getD, hi]; exact Node.zero_ok
theorem nil_mk (w : World) : NL w none 0 0 [] := ⟨WRow.nil_mk w 35, by simp, by omega⟩
end NL
theorem reads_node : Reads Try.prog 53 Node.cells Node.Ok := by
  intro H enc w fuel cs x h
  obtain ⟨y0, y1, y2, y3, n, _, hl, h0, h1, h2, h3⟩ := trod_struct4 Try.underlying53 h
  have c0 : Try.prog.cellsOf 53 = 35 := by kernel_rfl
  have c1 : Try.prog.cellsOf 38 = 32 := by kernel_rfl
  have c2 : Try.prog.cellsOf 3 = 1 := by kernel_rfl
  have c3 : Try.prog.cellsOf 26 = 1 := by kernel_rfl
  simp only [c0, c1, c2, c3] at hl h0 h1 h2 h3
  obtain ⟨r, e1, hr⟩ := reads_root _ _ _ _ _ _ h0
  obtain ⟨p, e2, hp⟩ := reads_int Try.underlying3 _ _ _ _ _ _ h1
  obtain ⟨s, e3, _, hs⟩ := DataW.trod_int Try.underlying26 h2
  obtain ⟨j, e4, _, hj⟩ := DataW.trod_int Try.underlying26 h3
  obtain ⟨s, rfl⟩ := Int.eq_ofNat_of_zero_le (bounds_u64 hs).1
  obtain ⟨j, rfl⟩ := Int.eq_ofNat_of_zero_le (bounds_u64 hj).1
  refine ⟨⟨r, p, s, j⟩, ?_, hr, hp, by have := (bounds_u64 hs).2; show s < _; omega, by have := (bounds_u64 hj).2; show j < _; omega⟩
  unfold Node.cells
  show cs = rootC r ++ [.int .i64 p, .int .u64 s, .int .u64 j]
  have E0 : cs.take 32 = rootC r := by simpa using e1
  replace e2 : (cs.drop 32).take 1 = [Value.int .i64 p] := e2
  have E3 : cs.drop 34 = [.int .u64 j] := by rw [← e4, List.take_of_length_le (by simp; omega)]
  have E2 : cs.drop 33 = [.int .u64 s] ++ cs.drop 34 := by rw [← e3, show (34 : Nat) = 33 + 1 from rfl, ← List.drop_drop, List.take_append_drop]
  have E1 : cs.drop 32 = [.int .i64 p] ++ cs.drop 33 := by rw [← e2, show (33 : Nat) = 32 + 1 from rfl, ← List.drop_drop, List.take_append_drop]
  rw [← List.take_append_drop 32 cs, E0, E1, E2, E3]
  rfl
theorem array1 {α : Type} {cs : Array α} (h : cs.size = 1) : ∃ c0, cs = #[c0] := by
  obtain ⟨l⟩ := cs
  match l, h with
  | [c0], _ => exact ⟨c0, rfl⟩
/-- A struct of one field of one cell, by value, opened. -/
theorem open_agg1 {H : Type} {enc : TypeId × Value → H} {P : Program} {w : World} {base : Nat} {spare : Nat → Bool} {held : Bool} {r : Reach} {b0 : Nat} {t : TypeId} {f0 : Field} {v : Value} {d : DataW H} {p : List MemPlace} (hs : P.underlying t = some (.struct #[f0])) (hone : oneCellFields P #[f0] = true) (hC : P.cellsOf t = 1)
    (hv : Value.okWide P w r b0 t v) (h : DataW.Trod enc P w base spare held t v d p) :
    ∃ (v0 : Value) (y0 : DataW H × List MemPlace) (n : Nat), v = .agg #[v0] ∧ d = .agg [y0.1] ∧ p = y0.2 ∧ DataW.trod enc P w base spare held n f0.type [v0] = some y0 := by
  obtain ⟨cs, rfl, hsz⟩ := okWide_struct hs hv
  obtain ⟨c0, rfl⟩ := array1 (hsz.trans hC)
  obtain ⟨fuel, hf⟩ := h
  obtain ⟨y0, n, hx, _, h0⟩ := trod_struct1 hs hf
  obtain ⟨o0, k0⟩ := hone_of hone 0 f0 rfl
  simp only [Prod.mk.injEq] at hx
  exact ⟨c0, y0, n, rfl, hx.1, hx.2, by simpa [Value.cells, o0, k0] using h0⟩
/-- An argument that is a tree. -/
theorem open_tree {H : Type} {enc : TypeId × Value → H} {w : World} {b0 : Nat} {r : Reach} {v : Value} {d : DataW H} {ps : List MemPlace} {ts : List TypeId} {ds : List (DataW H)} {j : Nat} (hval : Value.okWide Try.prog w r b0 24 v) (h : DataW.Trod enc Try.prog w 0 (fun _ => true) true 24 v d ps)
    (hsz : (DataW.weightsEach Try.prog ts ds).all (· ≤ reachBytes) = true) (htj : ts[j]? = some 24) (hdj : ds[j]? = some d) : ∃ A n c NS, v = .agg #[.slice A n c] ∧ NL w A n c NS := by
  obtain ⟨v0, y0, n, rfl, rfl, _, t0⟩ := open_agg1 Try.underlying24 (by kernel_rfl) (by kernel_rfl) hval h
  have hw := weights_le hsz htj hdj
  obtain ⟨A, m, c, ys, rfl, hr, hok, hb⟩ := inner_wide (size := 35) (bytes := 56) Try.underlying22 reads_node (by kernel_rfl) (by omega) (by kernel_rfl) (by omega) (fun y hy => ⟨Node.len hy, Node.one y⟩) t0 (fun q hq => hw q (by simp only [DataW.weights, Try.underlying24, List.map_cons, List.map_nil, DataW.weightsEach, List.append_nil, Array.toList]; exact hq))
  have hc := hr.cap
  exact ⟨A, m, c, ys, rfl, ⟨hr, hok, by have := Nat.mul_le_mul_right 56 hc; omega⟩⟩
def flatN (NS : List Node) : List Value := (NS.map Node.cells).flatten
theorem rowNodes : RowT Try.prog 22 53 35 56 := RowT.mk' (z := .agg Node.zero.cells.toArray) rfl (by kernel_rfl) rfl (by omega) (by omega)
/-- What the call owns are such nodes. -/
theorem NL.own {w : World} {base n : Nat} {v : Value} {NS : List Node} (h : w.ownsRow base 53 35 v n (flatN NS)) (hn : n * 56 ≤ 140737488355328) (hl : NS.length = n) (hok : ∀ x ∈ NS, x.Ok) : ∃ A c, v = .slice A n c ∧ NL w A n c NS ∧ ∀ ad, A = some ad → base ≤ ad.block := by
  obtain ⟨A, c, e, hr, hf⟩ := wide_own (by omega) h (by omega) (by simpa using hl) (fun x hx => by
    obtain ⟨y, hy, rfl⟩ := List.mem_map.1 hx
    exact ⟨Node.len (hok y hy), Node.one y⟩)
  exact ⟨A, c, e, ⟨hr, hok, hn⟩, hf⟩
theorem flatN_snoc (NS : List Node) (x : Node) : flatN (NS ++ [x]) = flatN NS ++ x.cells := by unfold flatN; simp
theorem flatN_len {NS : List Node} (h : ∀ x ∈ NS, x.Ok) : (flatN NS).length = NS.length * 35 := by
  unfold flatN
  rw [flat_len (size := 35) (fun y hy => by obtain ⟨x, hx, rfl⟩ := List.mem_map.1 hy; exact Node.len (h x hx)), List.length_map]
/-- A place's parent is another one. -/
theorem Node.set_par {x : Node} (h : x.Ok) (p : Int) : x.cells.set 32 (.int .i64 p) = Node.cells { x with par := p } := by
  unfold Node.cells
  rw [List.set_append_right _ _ (by simp [rootC_len h.1])]
  simp [rootC_len h.1]
theorem NL.setCell {w : World} {A : Option Addr} {n c : Nat} {NS : List Node} (h : NL w A n c NS) {p : Addr} (hne : ∀ ad, A = some ad → ad.block ≠ p.block) (u : Value) : NL (w.setCell p u) A n c NS :=
  ⟨⟨h.row.len, h.row.cap, h.row.room, h.row.wide, h.row.nil, fun hn => by
    obtain ⟨b, off, e, hc⟩ := h.row.cells hn
    refine ⟨b, off, e, fun i hi j v hv => ?_⟩
    rw [World.cell?_of_block (w := w) (Below.heap_setCell w p u b (hne _ e))]
    exact hc i hi j v hv⟩, h.ok, h.bytes⟩
end Go.Proofs.Ytjhhfininnlkfaa
