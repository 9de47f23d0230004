/- api.Latest: a vote's three fields as cells; '==' of two. -/
import Derived.Test.YtjhhfininnlkfaaWide
import Derived.Test.YtjhhfininnlkfaaBit
namespace Go.Proofs.Ytjhhfininnlkfaa
open Go.RowKit Go.WideShapes Go.ChangeShapes
set_option linter.unusedVariables false
set_option linter.unusedSimpArgs false

/-- A root: thirty-two bytes. -/
def RootOk (r : List Int) : Prop := r.length = 32 ∧ ∀ x ∈ r, (Lit.int .u8 x).wf = true
def rootC (r : List Int) : List Value := r.map (Value.int .u8)
def zeroR : List Int := List.replicate 32 0
theorem zeroR_ok : RootOk zeroR := ⟨rfl, by decide⟩
theorem rootC_len {r : List Int} (h : RootOk r) : (rootC r).length = 32 := by unfold rootC; simpa using h.1
theorem rootC_inj {r s : List Int} : (rootC r).toArray = (rootC s).toArray ↔ r = s := by
  constructor
  · intro h
    have h' : rootC r = rootC s := by simpa using h
    unfold rootC at h'
    exact List.map_inj_right (fun a b e => by simpa using e) |>.1 h'
  · rintro rfl; rfl
theorem root_keyT : KeyT Try.prog 38 := ⟨by kernel_rfl, by kernel_rfl, by kernel_rfl, by kernel_rfl⟩
theorem root_lits (d : Nat) {r : List Int} (h : RootOk r) : Try.prog.keyLits (d + 2) 38 (rootC r) = some (r.map (Lit.int .u8)) :=
  lits_row Try.underlying38 Try.underlying5 (by kernel_rfl) (by kernel_rfl) d h.1 h.2
theorem keyed_of {k : TypeId} {cs : List Value} {L : List Lit} (hw : wideType Try.prog k = true) (hk : Try.prog.keyType k = true) (hf : (Value.agg cs.toArray).formed Try.prog k = true) (hl : Try.prog.keyLits (Try.prog.types.size + 1) k cs = some L) : Keyed Try.prog k (.agg cs.toArray) := by
  unfold Keyed keyOf
  unfold wideType at hw
  have hl' : Try.prog.keyLits (Try.prog.types.size + 1) k (Value.agg cs.toArray).cells.toList = some L := by simpa [Value.cells] using hl
  split at hw
  · rename_i h; rw [h]; simp only [hk, hf, hl', Bool.and_self, if_true, Option.map_some]; exact ⟨_, rfl⟩
  · rename_i h; rw [h]; simp only [hk, hf, hl', Bool.and_self, if_true, Option.map_some]; exact ⟨_, rfl⟩
  · cases hw
theorem root_keyed {r : List Int} (h : RootOk r) : Keyed Try.prog 38 (.agg (rootC r).toArray) := by
  refine keyed_of (by kernel_rfl) (by kernel_rfl) ?_ (root_lits (Try.prog.types.size - 1) h)
  unfold Value.formed
  rw [Try.underlying38]
  simp only [List.size_toArray, rootC_len h]
  kernel_rfl
theorem root_eql {r s : List Int} (h : RootOk r) (g : RootOk s) {b : Bool} (e : b = true ↔ r = s) (w : World) : (binOp .eql 38 (.agg (rootC r).toArray) (.agg (rootC s).toArray)).run Try.prog w = .ok (.bool b) w :=
  run_eql_key root_keyT (root_keyed h) (root_keyed g) (by rw [e]; simp only [Value.agg.injEq]; exact rootC_inj.symm) w
theorem root_neq {r s : List Int} (h : RootOk r) (g : RootOk s) {b : Bool} (e : b = true ↔ r = s) (w : World) : (binOp .neq 38 (.agg (rootC r).toArray) (.agg (rootC s).toArray)).run Try.prog w = .ok (.bool (!b)) w :=
  run_neq_key root_keyT (root_keyed h) (root_keyed g) (by rw [e]; simp only [Value.agg.injEq]; exact rootC_inj.symm) w
structure Lat where
  has : Bool
  root : List Int
  epoch : Nat
namespace Lat
def Ok (x : Lat) : Prop := RootOk x.root ∧ x.epoch < 18446744073709551616
def cells (x : Lat) : List Value := [Value.bool x.has] ++ rootC x.root ++ [Value.int .u64 x.epoch]
def none : Lat := ⟨false, zeroR, 0⟩
theorem none_ok : none.Ok := ⟨zeroR_ok, by decide⟩
theorem len {x : Lat} (h : x.Ok) : x.cells.length = 34 := by unfold cells; simp [rootC_len h.1]
theorem one (x : Lat) : ∀ u ∈ x.cells, u.oneCell' = true := by
  intro u hu
  unfold cells rootC at hu
  simp at hu
  rcases hu with rfl | ⟨y, _, rfl⟩ | rfl <;> rfl
theorem inj {x y : Lat} (hx : x.Ok) (hy : y.Ok) : x.cells.toArray = y.cells.toArray ↔ x = y := by
  constructor
  · intro h
    have h' : x.cells = y.cells := by simpa using h
    unfold cells at h'
    rw [List.append_assoc, List.append_assoc] at h'
    have h1 := List.append_inj h' rfl
    have h2 := List.append_inj h1.2 (by rw [rootC_len hx.1, rootC_len hy.1])
    obtain ⟨a, r, e⟩ := x
    obtain ⟨a', r', e'⟩ := y
    have e1 : a = a' := by simpa using h1.1
    have e2 : r = r' := rootC_inj.1 (by simpa using h2.1)
    have e3 : e = e' := by have := h2.2; simp at this; omega
    subst e1; subst e2; subst e3
    rfl
  · rintro rfl; rfl
def eqb (x y : Lat) : Bool := (x.has == y.has) && decide (x.root = y.root) && decide (x.epoch = y.epoch)
theorem eqb_iff {x y : Lat} : x.eqb y = true ↔ x = y := by
  obtain ⟨a, r, e⟩ := x
  obtain ⟨a', r', e'⟩ := y
  unfold eqb
  simp [and_assoc]
theorem keyT : KeyT Try.prog 40 := ⟨by kernel_rfl, by kernel_rfl, by kernel_rfl, by kernel_rfl⟩
theorem lits (d : Nat) {x : Lat} (h : x.Ok) : ∃ L, Try.prog.keyLits (d + 3) 40 x.cells = some L := by
  have c0 : Try.prog.cellsOf 40 = 34 := by kernel_rfl
  have c1 : Try.prog.cellsOf 4 = 1 := by kernel_rfl
  have c2 : Try.prog.cellsOf 38 = 32 := by kernel_rfl
  have c3 : Try.prog.cellsOf 26 = 1 := by kernel_rfl
  have hl := len h
  have hr := rootC_len h.1
  unfold Program.keyLits
  rw [Try.underlying40]
  simp only [hl, c0]
  rw [if_pos ⟨trivial, by decide +kernel⟩]
  have f1 : (x.cells.drop 0).take (Try.prog.cellsOf 4) = [Value.bool x.has] := by rw [c1]; unfold cells; simp
  have f2 : (x.cells.drop 1).take (Try.prog.cellsOf 38) = rootC x.root := by
    rw [c2]; unfold cells
    rw [List.append_assoc, List.drop_append_of_le_length (by simp)]
    simp [← hr]
  have f3 : (x.cells.drop 33).take (Try.prog.cellsOf 26) = [Value.int .u64 x.epoch] := by
    rw [c3]; unfold cells
    rw [List.drop_append_of_le_length (by simp; omega), List.drop_of_length_le (by simp; omega)]
    simp
  have g1 : Try.prog.keyLits (d + 2) 4 [Value.bool x.has] = some [.bool x.has] := by unfold Program.keyLits; rw [Try.underlying4]
  have g2 := root_lits d h.1
  have g3 : Try.prog.keyLits (d + 2) 26 [Value.int .u64 x.epoch] = some [.int .u64 x.epoch] := lits_int Try.underlying26 (d + 1) (by have := h.2; simp [Lit.wf, IntKind.min, IntKind.max, IntKind.signed, IntKind.bits]; omega)
  simp only [List.mapM_cons, List.mapM_nil, f1, f2, f3, g1, g2, g3]
  exact ⟨_, rfl⟩
theorem keyed {x : Lat} (h : x.Ok) : Keyed Try.prog 40 (.agg x.cells.toArray) := by
  obtain ⟨L, hL⟩ := lits (Try.prog.types.size - 2) h
  refine keyed_of (by kernel_rfl) (by kernel_rfl) ?_ hL
  unfold Value.formed
  rw [Try.underlying40]
  simp only [List.size_toArray, len h]
  kernel_rfl
theorem neq {x y : Lat} (h : x.Ok) (g : y.Ok) {b : Bool} (e : b = true ↔ x = y) (w : World) : (binOp .neq 40 (.agg x.cells.toArray) (.agg y.cells.toArray)).run Try.prog w = .ok (.bool (!b)) w :=
  run_neq_key keyT (keyed h) (keyed g) (by rw [e]; simp only [Value.agg.injEq]; exact (inj h g).symm) w
theorem eql {x y : Lat} (h : x.Ok) (g : y.Ok) {b : Bool} (e : b = true ↔ x = y) (w : World) : (binOp .eql 40 (.agg x.cells.toArray) (.agg y.cells.toArray)).run Try.prog w = .ok (.bool b) w :=
  run_eql_key keyT (keyed h) (keyed g) (by rw [e]; simp only [Value.agg.injEq]; exact (inj h g).symm) w
end Lat
theorem Lat.built {r : List Int} (h : RootOk r) (e : Nat) : Try.prog.built 40 [(0, .bool true), (1, .agg (rootC r).toArray), (2, .int .u64 e)] = some (Lat.cells ⟨true, r, e⟩).toArray := by
  obtain ⟨i0, hi, hz0, hz1, hz2⟩ := info_parts (show (Try.prog.info? 40).map (fun i => (i.zero, i.size, i.bytes)) = some (some (.agg Lat.none.cells.toArray), 34, 48) by kernel_rfl)
  have hr := rootC_len h
  have h0 := rootC_len zeroR_ok
  rw [built_struct (places := [(0, 1), (1, 32), (33, 1)]) hi hz0 Try.underlying40 (by kernel_rfl)]
  show Instr.fill _ Lat.none.cells.toArray _ = _
  rw [fill_step (off := 0) (size := 1) rfl rfl (by rw [Lat.len Lat.none_ok]; omega), fill_step (off := 1) (size := 32) rfl (by simp [Value.cells, hr]) (by simp [Value.cells, Lat.len Lat.none_ok]), fill_step (off := 33) (size := 1) rfl rfl (by simp [Value.cells, hr, Lat.len Lat.none_ok])]
  unfold Instr.fill
  congr 2
  unfold Lat.cells Lat.none
  simp [Value.cells, hr, h0]
end Go.Proofs.Ytjhhfininnlkfaa
