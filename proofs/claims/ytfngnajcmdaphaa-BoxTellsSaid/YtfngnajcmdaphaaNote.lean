/- api.Note, api.Box: notes as cells; '==' of two; slices of them; arguments that are notes, boxes. -/
import Derived.Test.YtfngnajcmdaphaaRootOpen
namespace Go.Proofs.Ytfngnajcmdaphaa
open Go.RowKit Go.WideShapes Go.ChangeShapes Go.Joins Go.Deep
set_option linter.unusedVariables false
set_option linter.unusedSimpArgs false
structure Note where
  ver : Int
  head : List Int
  ep : Nat
  fin : List Int
namespace Note
def Ok (x : Note) : Prop := (Lit.int .i64 x.ver).wf = true ∧ RootOk x.head ∧ x.ep < 18446744073709551616 ∧ RootOk x.fin
def cells (x : Note) : List Value := Value.int .i64 x.ver :: (rootC x.head ++ (Value.int .u64 x.ep :: rootC x.fin))
def zero : Note := ⟨0, zeroR, 0, zeroR⟩
theorem zero_ok : zero.Ok := ⟨by decide, zeroR_ok, by decide, zeroR_ok⟩
theorem len {x : Note} (h : x.Ok) : x.cells.length = 66 := by unfold cells; simp [rootC_len h.2.1, rootC_len h.2.2.2]
theorem one (x : Note) : ∀ u ∈ x.cells, u.oneCell' = true := by
  intro u hu
  unfold cells rootC at hu
  simp at hu
  rcases hu with rfl | ⟨y, _, rfl⟩ | rfl | ⟨y, _, rfl⟩ <;> rfl
theorem inj {x y : Note} (hx : x.Ok) (hy : y.Ok) : x.cells.toArray = y.cells.toArray ↔ x = y := by
  constructor
  · intro h
    have h' : x.cells = y.cells := by simpa using h
    unfold cells at h'
    obtain ⟨h0, h1⟩ := List.cons.inj h'
    have h2 := List.append_inj h1 (by rw [rootC_len hx.2.1, rootC_len hy.2.1])
    obtain ⟨v, r, e, f⟩ := x
    obtain ⟨v', r', e', f'⟩ := y
    have e2 : r = r' := rootC_inj.1 (by simpa using h2.1)
    obtain ⟨h3, h4⟩ := List.cons.inj h2.2
    have e4 : f = f' := rootC_inj.1 (by simpa using h4)
    have e1 : v = v' := by simpa using h0
    have e3 : e = e' := by simp at h3; omega
    subst e1; subst e2; subst e3; subst e4
    rfl
  · rintro rfl; rfl
def eqb (x y : Note) : Bool := decide (x.ver = y.ver) && decide (x.head = y.head) && decide (x.ep = y.ep) && decide (x.fin = y.fin)
theorem eqb_iff {x y : Note} : x.eqb y = true ↔ x = y := by
  obtain ⟨r, p, s, j⟩ := x
  obtain ⟨r', p', s', j'⟩ := y
  unfold eqb
  simp [and_assoc]
instance : DecidableEq Note := fun x y => decidable_of_iff _ (@eqb_iff x y)
theorem keyT : KeyT Try.prog 33 := ⟨by kernel_rfl, by kernel_rfl, by kernel_rfl, by kernel_rfl⟩
theorem lits_check (d : Nat) {e : Nat} (he : e < 18446744073709551616) {f : List Int} (hf : RootOk f) : ∃ L, Try.prog.keyLits (d + 3) 31 (Value.int .u64 e :: rootC f) = some L := by
  have c0 : Try.prog.cellsOf 31 = 33 := by kernel_rfl
  have c1 : Try.prog.cellsOf 28 = 32 := by kernel_rfl
  have c3 : Try.prog.cellsOf 29 = 1 := by kernel_rfl
  have hr := rootC_len hf
  unfold Program.keyLits
  rw [Try.underlying31]
  simp only [List.length_cons, hr, c0]
  rw [if_pos ⟨trivial, by decide +kernel⟩]
  have f1 : ((Value.int .u64 e :: rootC f).drop 0).take (Try.prog.cellsOf 29) = [Value.int .u64 e] := by rw [c3]; rfl
  have f2 : ((Value.int .u64 e :: rootC f).drop 1).take (Try.prog.cellsOf 28) = rootC f := by rw [c1]; simp [← hr]
  have g1 : Try.prog.keyLits (d + 2) 29 [Value.int .u64 e] = some [.int .u64 e] := lits_int Try.underlying29 (d + 1) (by simp [Lit.wf, IntKind.min, IntKind.max, IntKind.signed, IntKind.bits]; omega)
  have g2 := root_lits d hf
  simp only [List.mapM_cons, List.mapM_nil, f1, f2, g1, g2]
  exact ⟨_, rfl⟩
theorem lits (d : Nat) {x : Note} (h : x.Ok) : ∃ L, Try.prog.keyLits (d + 4) 33 x.cells = some L := by
  have c0 : Try.prog.cellsOf 33 = 66 := by kernel_rfl
  have c1 : Try.prog.cellsOf 28 = 32 := by kernel_rfl
  have c2 : Try.prog.cellsOf 3 = 1 := by kernel_rfl
  have c3 : Try.prog.cellsOf 31 = 33 := by kernel_rfl
  have hl := len h
  have hr := rootC_len h.2.1
  have hf := rootC_len h.2.2.2
  unfold Program.keyLits
  rw [Try.underlying33]
  simp only [hl, c0]
  rw [if_pos ⟨trivial, by decide +kernel⟩]
  have f1 : (x.cells.drop 0).take (Try.prog.cellsOf 3) = [Value.int .i64 x.ver] := by rw [c2]; rfl
  have f2 : (x.cells.drop 1).take (Try.prog.cellsOf 28) = rootC x.head := by
    rw [c1]; unfold cells; simp [← hr]
  have f3 : (x.cells.drop 33).take (Try.prog.cellsOf 31) = Value.int .u64 x.ep :: rootC x.fin := by
    rw [c3]; unfold cells
    rw [show (33 : Nat) = 32 + 1 from rfl, List.drop_succ_cons]
    rw [show (rootC x.head ++ Value.int .u64 x.ep :: rootC x.fin).drop 32 = Value.int .u64 x.ep :: rootC x.fin by conv => lhs; rw [← hr, List.drop_left]]
    rw [List.take_of_length_le (by simp [hf])]
  have g1 : Try.prog.keyLits (d + 3) 3 [Value.int .i64 x.ver] = some [.int .i64 x.ver] := lits_int Try.underlying3 (d + 2) h.1
  have g2 := root_lits (d + 1) h.2.1
  obtain ⟨L, g3⟩ := lits_check d h.2.2.1 h.2.2.2
  simp only [List.mapM_cons, List.mapM_nil, f1, f2, f3, g1, g2, g3]
  exact ⟨_, rfl⟩
theorem keyed {x : Note} (h : x.Ok) : Keyed Try.prog 33 (.agg x.cells.toArray) := by
  obtain ⟨L, hL⟩ := lits (Try.prog.types.size - 3) h
  refine keyed_of (by kernel_rfl) (by kernel_rfl) ?_ hL
  unfold Value.formed
  rw [Try.underlying33]
  simp only [List.size_toArray, len h]
  kernel_rfl
theorem neq {x y : Note} (h : x.Ok) (g : y.Ok) {b : Bool} (e : b = true ↔ x = y) (w : World) : (binOp .neq 33 (.agg x.cells.toArray) (.agg y.cells.toArray)).run Try.prog w = .ok (.bool (!b)) w :=
  run_neq_key keyT (keyed h) (keyed g) (by rw [e]; simp only [Value.agg.injEq]; exact (inj h g).symm) w
theorem eql {x y : Note} (h : x.Ok) (g : y.Ok) {b : Bool} (e : b = true ↔ x = y) (w : World) : (binOp .eql 33 (.agg x.cells.toArray) (.agg y.cells.toArray)).run Try.prog w = .ok (.bool b) w :=
  run_eql_key keyT (keyed h) (keyed g) (by rw [e]; simp only [Value.agg.injEq]; exact (inj h g).symm) w
theorem at0 (x : Note) : x.cells[0]? = some (.int .i64 x.ver) := rfl
theorem set_ver (x : Note) (v : Int) : x.cells.set 0 (.int .i64 v) = Note.cells { x with ver := v } := rfl
end Note
def zNote : Array Value := Note.zero.cells.toArray
theorem zNote_size : zNote.size = 66 := rfl
theorem zNote_ne : ¬ zNote = #[] := fun h => by have := congrArg Array.size h; rw [zNote_size] at this; cases this
theorem zeroNote (w : World) : Sem.run Try.prog (zeroValue 33) w = .ok (.agg zNote) w := by kernel_rfl
/-- Notes, as they lie. -/
structure TL (w : World) (A : Option Addr) (n c : Nat) (NS : List Note) : Prop where
  row : WRow w 66 A n c (NS.map Note.cells)
  ok : ∀ x ∈ NS, x.Ok
  bytes : n * 80 ≤ 140737488355328
namespace TL
variable {w w' : World} {A : Option Addr} {n c : Nat} {NS : List Note}
theorem ext (h : TL w A n c NS) (hx : Ext w w') : TL w' A n c NS := ⟨h.row.ext hx, h.ok, h.bytes⟩
theorem len (h : TL w A n c NS) : NS.length = n := by have := h.row.len; simpa using this
theorem at' (h : TL w A n c NS) {i : Nat} (hi : i < n) : ∃ b off, A = some ⟨b, off, none⟩ ∧ w.rangeAt b (off + i * 66) (NS.getD i Note.zero).cells ∧ (NS.getD i Note.zero).Ok := by
  have hl := h.len
  obtain ⟨b, off, e, hc⟩ := h.row.cells (by omega)
  refine ⟨b, off, e, ?_, h.ok _ (by simp [List.getD, show i < NS.length by omega])⟩
  have := hc i hi
  simpa [List.getD, show i < NS.length by omega] using this
theorem okAt (h : TL w A n c NS) (i : Nat) : (NS.getD i Note.zero).Ok := by
  by_cases hi : i < NS.length
  · exact h.ok _ (by simp [List.getD, hi])
  · simp [List.getD, hi]; exact Note.zero_ok
theorem nil_mk (w : World) : TL w none 0 0 [] := ⟨WRow.nil_mk w 66, by simp, by omega⟩
theorem setCell (h : TL w A n c NS) {p : Addr} (hne : ∀ ad, A = some ad → ad.block ≠ p.block) (u : Value) : TL (w.setCell p u) A n c NS :=
  ⟨⟨h.row.len, h.row.cap, h.row.room, h.row.wide, h.row.nil, fun hn => by
    obtain ⟨b, off, e, hc⟩ := h.row.cells hn
    refine ⟨b, off, e, fun i hi j v hv => ?_⟩
    rw [World.cell?_of_block (w := w) (Below.heap_setCell w p u b (hne _ e))]
    exact hc i hi j v hv⟩, h.ok, h.bytes⟩
theorem src (h : TL w A n c NS) : Src w 66 A n c (NS.map Note.cells).flatten := wide_src (by omega) h.row
end TL
def flatT (NS : List Note) : List Value := (NS.map Note.cells).flatten
theorem flatT_snoc (NS : List Note) (x : Note) : flatT (NS ++ [x]) = flatT NS ++ x.cells := by unfold flatT; simp
theorem rowNotes : RowT Try.prog 22 33 66 80 := RowT.mk' (z := .agg Note.zero.cells.toArray) rfl (by kernel_rfl) rfl (by omega) (by omega)
theorem TL.own {w : World} {base n : Nat} {v : Value} {NS : List Note} (h : w.ownsRow base 33 66 v n (flatT NS)) (hn : n * 80 ≤ 140737488355328) (hl : NS.length = n) (hok : ∀ x ∈ NS, x.Ok) : ∃ A c, v = .slice A n c ∧ TL w A n c NS ∧ ∀ ad, A = some ad → base ≤ ad.block := by
  obtain ⟨A, c, e, hr, hf⟩ := wide_own (by omega) h (by omega) (by simpa using hl) (fun x hx => by
    obtain ⟨y, hy, rfl⟩ := List.mem_map.1 hx
    exact ⟨Note.len (hok y hy), Note.one y⟩)
  exact ⟨A, c, e, ⟨hr, hok, hn⟩, hf⟩
theorem reads_check : Reads Try.prog 31 (fun (z : Nat × List Int) => Value.int .u64 z.1 :: rootC z.2) (fun z => z.1 < 18446744073709551616 ∧ RootOk z.2) := by
  intro H enc w fuel cs x h
  obtain ⟨y0, y1, n, _, hl, h0, h1⟩ := trod_struct2 Try.underlying31 h
  have c0 : Try.prog.cellsOf 31 = 33 := by kernel_rfl
  have c1 : Try.prog.cellsOf 28 = 32 := by kernel_rfl
  have c3 : Try.prog.cellsOf 29 = 1 := by kernel_rfl
  simp only [c0, c1, c3] at hl h0 h1
  obtain ⟨e, e2, _, he⟩ := DataW.trod_int Try.underlying29 h0
  obtain ⟨r, e1, hr⟩ := reads_root _ _ _ _ _ _ h1
  obtain ⟨q, rfl⟩ := Int.eq_ofNat_of_zero_le (bounds_u64 he).1
  refine ⟨(q, r), ?_, by have := (bounds_u64 he).2; show q < _; omega, hr⟩
  show cs = [.int .u64 q] ++ rootC r
  have E0 : cs.take 1 = [.int .u64 q] := by simpa using e2
  have E1 : cs.drop 1 = rootC r := by rw [← e1, List.take_of_length_le (by simp; omega)]
  rw [← E0, ← E1, List.take_append_drop]
theorem reads_note : Reads Try.prog 33 Note.cells Note.Ok := by
  intro H enc w fuel cs x h
  obtain ⟨y0, y1, y2, n, _, hl, h0, h1, h2⟩ := trod_struct3 Try.underlying33 h
  have c0 : Try.prog.cellsOf 33 = 66 := by kernel_rfl
  have c1 : Try.prog.cellsOf 28 = 32 := by kernel_rfl
  have c2 : Try.prog.cellsOf 3 = 1 := by kernel_rfl
  have c3 : Try.prog.cellsOf 31 = 33 := by kernel_rfl
  simp only [c0, c1, c2, c3] at hl h0 h1 h2
  obtain ⟨p, e0, hp⟩ := reads_int Try.underlying3 _ _ _ _ _ _ h0
  obtain ⟨r, e1, hr⟩ := reads_root _ _ _ _ _ _ h1
  obtain ⟨⟨e, f⟩, e2, he, hf⟩ := reads_check _ _ _ _ _ _ h2
  refine ⟨⟨p, r, e, f⟩, ?_, hp, hr, he, hf⟩
  show cs = [.int .i64 p] ++ (rootC r ++ (.int .u64 e :: rootC f))
  have E0 : cs.take 1 = [.int .i64 p] := by simpa using e0
  replace e1 : (cs.drop 1).take 32 = rootC r := e1
  replace e2 : (cs.drop 33).take 33 = .int .u64 e :: rootC f := e2
  have E2 : cs.drop 33 = .int .u64 e :: rootC f := by rw [← e2, List.take_of_length_le (by simp; omega)]
  rw [← E0, ← E2, ← e1, show (33 : Nat) = 1 + 32 from rfl, ← List.drop_drop, List.take_append_drop, List.take_append_drop]
theorem open_note {H : Type} {enc : TypeId × Value → H} {w : World} {b0 : Nat} {r : Reach} {v : Value} {d : DataW H} {ps : List MemPlace} (hval : Value.okWide Try.prog w r b0 33 v) (h : DataW.Trod enc Try.prog w 0 (fun _ => true) true 33 v d ps) : ∃ y : Note, v = .agg y.cells.toArray ∧ y.Ok :=
  open_agg reads_note (by obtain ⟨cs, e, _⟩ := okWide_struct Try.underlying33 hval; exact ⟨cs, e⟩) h
theorem open_box {H : Type} {enc : TypeId × Value → H} {w : World} {b0 : Nat} {r : Reach} {v : Value} {d : DataW H} {ps : List MemPlace} {ts : List TypeId} {ds : List (DataW H)} {j : Nat} (hval : Value.okWide Try.prog w r b0 24 v) (h : DataW.Trod enc Try.prog w 0 (fun _ => true) true 24 v d ps)
    (hsz : (DataW.weightsEach Try.prog ts ds).all (· ≤ reachBytes) = true) (htj : ts[j]? = some 24) (hdj : ds[j]? = some d) : ∃ A n c NS cap lag cl, v = .agg #[.int .i64 cap, .slice A n c, .bool lag, .bool cl] ∧ TL w A n c NS ∧ -9223372036854775808 ≤ cap ∧ cap ≤ 9223372036854775807 := by
  obtain ⟨v0, v1, v2, v3, y0, y1, y2, y3, n, rfl, rfl, _, t0, t1, t2, t3⟩ := open_agg4 Try.underlying24 (by kernel_rfl) (by kernel_rfl) hval h
  obtain ⟨cap, e0, hc⟩ := reads_int Try.underlying3 _ _ _ _ _ _ t0
  obtain ⟨lag, e2, _⟩ := reads_bool Try.underlying4 _ _ _ _ _ _ t2
  obtain ⟨cl, e3, _⟩ := reads_bool Try.underlying4 _ _ _ _ _ _ t3
  simp at e0 e2 e3
  subst e0; subst e2; subst e3
  have hw := weights_le hsz htj hdj
  obtain ⟨A, m, c, ys, rfl, hr, hok, hb⟩ := inner_wide (size := 66) (bytes := 80) Try.underlying22 reads_note (by kernel_rfl) (by omega) (by kernel_rfl) (by omega) (fun y hy => ⟨Note.len hy, Note.one y⟩) t1 (fun q hq => hw q (by simp only [DataW.weights, Try.underlying24, List.map_cons, List.map_nil, DataW.weightsEach, List.mem_append, Array.toList]; exact .inr (.inl hq)))
  have hcap := hr.cap
  have hb' := bounds_i64 hc
  exact ⟨A, m, c, ys, cap, lag, cl, rfl, ⟨hr, hok, by have := Nat.mul_le_mul_right 80 hcap; omega⟩, hb'.1, hb'.2⟩
theorem open_notes {H : Type} {enc : TypeId × Value → H} {w : World} {b0 : Nat} {r : Reach} {v : Value} {d : DataW H} {ps : List MemPlace} {ts : List TypeId} {ds : List (DataW H)} {j : Nat} (hval : Value.okWide Try.prog w r b0 22 v) (h : DataW.Trod enc Try.prog w 0 (fun _ => true) true 22 v d ps)
    (hsz : (DataW.weightsEach Try.prog ts ds).all (· ≤ reachBytes) = true) (htj : ts[j]? = some 22) (hdj : ds[j]? = some d) : ∃ A n c NS, v = .slice A n c ∧ TL w A n c NS := by
  obtain ⟨a0, len, cap, rfl⟩ := okWide_slice Try.underlying22 hval
  obtain ⟨fuel, hf⟩ := h
  have hf' : DataW.trod enc Try.prog w 0 (fun _ => true) true fuel 22 [.slice a0 len cap] = some (d, ps) := by simpa [Value.cells] using hf
  obtain ⟨A, n, c, ys, e, hr, hok, hb⟩ := inner_wide (size := 66) (bytes := 80) Try.underlying22 reads_note (by kernel_rfl) (by omega) (by kernel_rfl) (by omega) (fun y hy => ⟨Note.len hy, Note.one y⟩) hf' (weights_le hsz htj hdj)
  have hc := hr.cap
  exact ⟨A, n, c, ys, e, hr, hok, by have := Nat.mul_le_mul_right 80 hc; omega⟩
end Go.Proofs.Ytfngnajcmdaphaa
