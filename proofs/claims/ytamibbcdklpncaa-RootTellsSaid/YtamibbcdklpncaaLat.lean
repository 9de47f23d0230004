/- api.Latest: a vote's three fields as cells; '==' of two. -/
import Derived.Test.YtamibbcdklpncaaWide

namespace Go.Proofs.Ytamibbcdklpncaa
open Go.RowKit Go.WideShapes Go.ChangeShapes
set_option linter.unusedVariables false
set_option linter.unusedSimpArgs false

/-- A root: thirty-two bytes. -/
def RootOk (r : List Int) : Prop := r.length = 32 ∧ ∀ x ∈ r, (Lit.int .u8 x).wf = true
def rootC (r : List Int) : List Value := r.map (Value.int .u8)
def zeroR : List Int := List.replicate 32 0
theorem zeroR_ok : RootOk zeroR := ⟨rfl, by decide⟩
theorem rootC_len {r : List Int} (h : RootOk r) : (rootC r).length = 32 := by unfold rootC; simpa using h.1
theorem rootC_inj {r s : List Int} : (rootC r).toArray = (rootC s).toArray ↔ r = s := by
  constructor
  · intro h
    have h' : rootC r = rootC s := by simpa using h
    unfold rootC at h'
    exact List.map_inj_right (fun a b e => by simpa using e) |>.1 h'
  · rintro rfl; rfl
theorem root_keyT : KeyT Try.prog 23 := ⟨by kernel_rfl, by kernel_rfl, by kernel_rfl, by kernel_rfl⟩
theorem root_lits (d : Nat) {r : List Int} (h : RootOk r) : Try.prog.keyLits (d + 2) 23 (rootC r) = some (r.map (Lit.int .u8)) :=
  lits_row Try.underlying23 Try.underlying5 (by kernel_rfl) (by kernel_rfl) d h.1 h.2
theorem keyed_of {k : TypeId} {cs : List Value} {L : List Lit} (hw : wideType Try.prog k = true) (hk : Try.prog.keyType k = true) (hf : (Value.agg cs.toArray).formed Try.prog k = true) (hl : Try.prog.keyLits (Try.prog.types.size + 1) k cs = some L) : Keyed Try.prog k (.agg cs.toArray) := by
  unfold Keyed keyOf
  unfold wideType at hw
  have hl' : Try.prog.keyLits (Try.prog.types.size + 1) k (Value.agg cs.toArray).cells.toList = some L := by simpa [Value.cells] using hl
  split at hw
  · rename_i h; rw [h]; simp only [hk, hf, hl', Bool.and_self, if_true, Option.map_some]; exact ⟨_, rfl⟩
  · rename_i h; rw [h]; simp only [hk, hf, hl', Bool.and_self, if_true, Option.map_some]; exact ⟨_, rfl⟩
  · cases hw
theorem root_keyed {r : List Int} (h : RootOk r) : Keyed Try.prog 23 (.agg (rootC r).toArray) := by
  refine keyed_of (by kernel_rfl) (by kernel_rfl) ?_ (root_lits (Try.prog.types.size - 1) h)
  unfold Value.formed
  rw [Try.underlying23]
  simp only [List.size_toArray, rootC_len h]
  kernel_rfl
theorem root_eql {r s : List Int} (h : RootOk r) (g : RootOk s) {b : Bool} (e : b = true ↔ r = s) (w : World) : (binOp .eql 23 (.agg (rootC r).toArray) (.agg (rootC s).toArray)).run Try.prog w = .ok (.bool b) w :=
  run_eql_key root_keyT (root_keyed h) (root_keyed g) (by rw [e]; simp only [Value.agg.injEq]; exact rootC_inj.symm) w
theorem root_neq {r s : List Int} (h : RootOk r) (g : RootOk s) {b : Bool} (e : b = true ↔ r = s) (w : World) : (binOp .neq 23 (.agg (rootC r).toArray) (.agg (rootC s).toArray)).run Try.prog w = .ok (.bool (!b)) w :=
  run_neq_key root_keyT (root_keyed h) (root_keyed g) (by rw [e]; simp only [Value.agg.injEq]; exact rootC_inj.symm) w






















































































end Go.Proofs.Ytamibbcdklpncaa
