/-
  No cell of these rows narrows 'for every input' (looked for: loops, veiled, ifaces, maps, wideKeys, modest, calm, conditions, laid).
  DERIVED. THE GIVEN ROWS OF THIS SEAT. 8 by the template 'for every input the law returns true; each argument reads behind the call as it read before'; 0 by the template 'total and deterministic' (their statements: YtoifhpcpahfddaaTotals.lean).
  GIVEN WITH THE SEED: the statements are not yours to turn. If you find one false, say at which input.
  Laid BY PROGRAM, IN A SANDBOX (cutbox-rows.mjs): the forced cells as the released guide's own fill.sh prints them over the translation c43c174bcf2deb65… (all of the seat's roots in one cut). By AI agents, Wed Nov 11 2026. No macro, syntax, notation, axiom, sorry.
-/
import Derived.Test.YtoifhpcpahfddaaChecked
import GoSem.Claim
import GoSem.ClaimJoined
import GoSem.ClaimMapViews
import Derived.JoinedTies
import Derived.KernelRfl
namespace Go.Proofs.Ytoifhpcpahfddaa
/- THE CELL 'sum', in the pinned program and in every row, IS THE sha256 OF THE DUMP (.gsa) THAT YtoifhpcpahfddaaProg.lean LOADS. Nothing in Lean hashes anything: it is a label: what it is worth is what the hold of that sum in a sandbox is worth. -/
noncomputable def Try.pinned : Pinned := { name := "ytoifhpcpahfddaa", sum := "c43c174bcf2deb65c05f8674190975cf3974dc7cbe2d1329db4e2b3e4632cb36", checked := Try.checked }
namespace Rows
def none {H : Type} : Left H := { results := [], args := [] }

/-- 'areopaguslaw06.TreeAbove': WHATEVER THE INPUT: true; the input reads as it did. -/
def treeAboveSpec : ChangeSpec := { name := "treeAbove", fn := fun _ => fun
  | [d1, d2, d3, d4] => { results := [.lit (.bool true)], args := [d1, d2, d3, d4] }
  | _ => none }
def treeAboveRow : OpenClaim := { program := "ytoifhpcpahfddaa", sum := "c43c174bcf2deb65c05f8674190975cf3974dc7cbe2d1329db4e2b3e4632cb36", func := "areopagus/areopaguslaw06.TreeAbove", spec := "treeAbove", unfollowed := true, recurses := true, plainKeys := false, apart := false }
def TreeAboveSaid : Prop := treeAboveRow.holds Try.pinned (OpenSpec.ofChange treeAboveSpec)

/-- ITS FALSE NEIGHBOUR: 'it returns false'. Refute it at one input. -/
def treeAboveWrong : ChangeSpec := { name := "treeAbove", fn := fun _ => fun
  | [d1, d2, d3, d4] => { results := [.lit (.bool false)], args := [d1, d2, d3, d4] }
  | _ => none }
def TreeAboveWrongFalsely : Prop := treeAboveRow.holds Try.pinned (OpenSpec.ofChange treeAboveWrong)

/-- 'areopaguslaw06.TreeAt': WHATEVER THE INPUT: true; the input reads as it did. -/
def treeAtSpec : ChangeSpec := { name := "treeAt", fn := fun _ => fun
  | [d1, d2, d3, d4] => { results := [.lit (.bool true)], args := [d1, d2, d3, d4] }
  | _ => none }
def treeAtRow : OpenClaim := { program := "ytoifhpcpahfddaa", sum := "c43c174bcf2deb65c05f8674190975cf3974dc7cbe2d1329db4e2b3e4632cb36", func := "areopagus/areopaguslaw06.TreeAt", spec := "treeAt", unfollowed := true, recurses := true, plainKeys := false, apart := false }
def TreeAtSaid : Prop := treeAtRow.holds Try.pinned (OpenSpec.ofChange treeAtSpec)

/-- ITS FALSE NEIGHBOUR: 'it returns false'. Refute it at one input. -/
def treeAtWrong : ChangeSpec := { name := "treeAt", fn := fun _ => fun
  | [d1, d2, d3, d4] => { results := [.lit (.bool false)], args := [d1, d2, d3, d4] }
  | _ => none }
def TreeAtWrongFalsely : Prop := treeAtRow.holds Try.pinned (OpenSpec.ofChange treeAtWrong)

/-- 'areopaguslaw06.TreeCut': WHATEVER THE INPUT: true; the input reads as it did. -/
def treeCutSpec : ChangeSpec := { name := "treeCut", fn := fun _ => fun
  | [d1, d2, d3, d4, d5] => { results := [.lit (.bool true)], args := [d1, d2, d3, d4, d5] }
  | _ => none }
def treeCutRow : OpenClaim := { program := "ytoifhpcpahfddaa", sum := "c43c174bcf2deb65c05f8674190975cf3974dc7cbe2d1329db4e2b3e4632cb36", func := "areopagus/areopaguslaw06.TreeCut", spec := "treeCut", unfollowed := true, recurses := true, plainKeys := false, apart := false }
def TreeCutSaid : Prop := treeCutRow.holds Try.pinned (OpenSpec.ofChange treeCutSpec)

/-- ITS FALSE NEIGHBOUR: 'it returns false'. Refute it at one input. -/
def treeCutWrong : ChangeSpec := { name := "treeCut", fn := fun _ => fun
  | [d1, d2, d3, d4, d5] => { results := [.lit (.bool false)], args := [d1, d2, d3, d4, d5] }
  | _ => none }
def TreeCutWrongFalsely : Prop := treeCutRow.holds Try.pinned (OpenSpec.ofChange treeCutWrong)

/-- 'areopaguslaw06.TreeKids': WHATEVER THE INPUT: true; the input reads as it did. -/
def treeKidsSpec : ChangeSpec := { name := "treeKids", fn := fun _ => fun
  | [d1, d2] => { results := [.lit (.bool true)], args := [d1, d2] }
  | _ => none }
def treeKidsRow : OpenClaim := { program := "ytoifhpcpahfddaa", sum := "c43c174bcf2deb65c05f8674190975cf3974dc7cbe2d1329db4e2b3e4632cb36", func := "areopagus/areopaguslaw06.TreeKids", spec := "treeKids", unfollowed := true, recurses := true, plainKeys := false, apart := false }
def TreeKidsSaid : Prop := treeKidsRow.holds Try.pinned (OpenSpec.ofChange treeKidsSpec)

/-- ITS FALSE NEIGHBOUR: 'it returns false'. Refute it at one input. -/
def treeKidsWrong : ChangeSpec := { name := "treeKids", fn := fun _ => fun
  | [d1, d2] => { results := [.lit (.bool false)], args := [d1, d2] }
  | _ => none }
def TreeKidsWrongFalsely : Prop := treeKidsRow.holds Try.pinned (OpenSpec.ofChange treeKidsWrong)

/-- 'areopaguslaw06.TreeFinds': WHATEVER THE INPUT: true; the input reads as it did. -/
def treeFindsSpec : ChangeSpec := { name := "treeFinds", fn := fun _ => fun
  | [d1, d2, d3] => { results := [.lit (.bool true)], args := [d1, d2, d3] }
  | _ => none }
def treeFindsRow : OpenClaim := { program := "ytoifhpcpahfddaa", sum := "c43c174bcf2deb65c05f8674190975cf3974dc7cbe2d1329db4e2b3e4632cb36", func := "areopagus/areopaguslaw06.TreeFinds", spec := "treeFinds", unfollowed := true, recurses := true, plainKeys := false, apart := false }
def TreeFindsSaid : Prop := treeFindsRow.holds Try.pinned (OpenSpec.ofChange treeFindsSpec)

/-- ITS FALSE NEIGHBOUR: 'it returns false'. Refute it at one input. -/
def treeFindsWrong : ChangeSpec := { name := "treeFinds", fn := fun _ => fun
  | [d1, d2, d3] => { results := [.lit (.bool false)], args := [d1, d2, d3] }
  | _ => none }
def TreeFindsWrongFalsely : Prop := treeFindsRow.holds Try.pinned (OpenSpec.ofChange treeFindsWrong)

/-- 'areopaguslaw06.TreeLast': WHATEVER THE INPUT: true; the input reads as it did. -/
def treeLastSpec : ChangeSpec := { name := "treeLast", fn := fun _ => fun
  | [d1, d2, d3, d4] => { results := [.lit (.bool true)], args := [d1, d2, d3, d4] }
  | _ => none }
def treeLastRow : OpenClaim := { program := "ytoifhpcpahfddaa", sum := "c43c174bcf2deb65c05f8674190975cf3974dc7cbe2d1329db4e2b3e4632cb36", func := "areopagus/areopaguslaw06.TreeLast", spec := "treeLast", unfollowed := true, recurses := true, plainKeys := false, apart := false }
def TreeLastSaid : Prop := treeLastRow.holds Try.pinned (OpenSpec.ofChange treeLastSpec)

/-- ITS FALSE NEIGHBOUR: 'it returns false'. Refute it at one input. -/
def treeLastWrong : ChangeSpec := { name := "treeLast", fn := fun _ => fun
  | [d1, d2, d3, d4] => { results := [.lit (.bool false)], args := [d1, d2, d3, d4] }
  | _ => none }
def TreeLastWrongFalsely : Prop := treeLastRow.holds Try.pinned (OpenSpec.ofChange treeLastWrong)

/-- 'areopaguslaw06.TreeInsert': WHATEVER THE INPUT: true; the input reads as it did. -/
def treeInsertSpec : ChangeSpec := { name := "treeInsert", fn := fun _ => fun
  | [d1, d2] => { results := [.lit (.bool true)], args := [d1, d2] }
  | _ => none }
def treeInsertRow : OpenClaim := { program := "ytoifhpcpahfddaa", sum := "c43c174bcf2deb65c05f8674190975cf3974dc7cbe2d1329db4e2b3e4632cb36", func := "areopagus/areopaguslaw06.TreeInsert", spec := "treeInsert", unfollowed := true, recurses := true, plainKeys := false, apart := false }
def TreeInsertSaid : Prop := treeInsertRow.holds Try.pinned (OpenSpec.ofChange treeInsertSpec)

/-- ITS FALSE NEIGHBOUR: 'it returns false'. Refute it at one input. -/
def treeInsertWrong : ChangeSpec := { name := "treeInsert", fn := fun _ => fun
  | [d1, d2] => { results := [.lit (.bool false)], args := [d1, d2] }
  | _ => none }
def TreeInsertWrongFalsely : Prop := treeInsertRow.holds Try.pinned (OpenSpec.ofChange treeInsertWrong)

/-- 'areopaguslaw06.TreeTells': WHATEVER THE INPUT: true; the input reads as it did. -/
def treeTellsSpec : ChangeSpec := { name := "treeTells", fn := fun _ => fun
  | [d1, d2, d3, d4, d5, d6] => { results := [.lit (.bool true)], args := [d1, d2, d3, d4, d5, d6] }
  | _ => none }
def treeTellsRow : OpenClaim := { program := "ytoifhpcpahfddaa", sum := "c43c174bcf2deb65c05f8674190975cf3974dc7cbe2d1329db4e2b3e4632cb36", func := "areopagus/areopaguslaw06.TreeTells", spec := "treeTells", unfollowed := true, recurses := true, plainKeys := false, apart := false }
def TreeTellsSaid : Prop := treeTellsRow.holds Try.pinned (OpenSpec.ofChange treeTellsSpec)

/-- ITS FALSE NEIGHBOUR: 'it returns false'. Refute it at one input. -/
def treeTellsWrong : ChangeSpec := { name := "treeTells", fn := fun _ => fun
  | [d1, d2, d3, d4, d5, d6] => { results := [.lit (.bool false)], args := [d1, d2, d3, d4, d5, d6] }
  | _ => none }
def TreeTellsWrongFalsely : Prop := treeTellsRow.holds Try.pinned (OpenSpec.ofChange treeTellsWrong)

/- THE SECOND FORM. 'bulk': how many values and letters a reading holds, each counted each time it is reached (what is shared counts as often as it is met; a slice's spare places count too). A statement '..UptoSaid' is the law's where the arguments, and the package variables that the reading takes, are together of bulk at most 1048576: NARROWER than '..Said'. Prove '..Said' where nothing that the law and all that it calls make is longer than what came in: it says more and counts as full. Else prove '..UptoSaid'. A law counts once. -/
mutual
def uptoBulk {H : Type} : DataW H → Nat
  | .lit (.string bytes) => bytes.length + 1
  | .lit _ => 1
  | .nil => 1
  | .ptr d => uptoBulk d + 1
  | .slice elems spare => uptoBulkAll elems + uptoBulkAll spare + 1
  | .agg parts => uptoBulkAll parts + 1
  | .iface _ d => uptoBulk d + 1
  | .map entries => uptoBulkEntries entries + 1
  | .held _ => 1
def uptoBulkAll {H : Type} : List (DataW H) → Nat
  | [] => 0
  | d :: r => uptoBulk d + uptoBulkAll r
def uptoBulkEntries {H : Type} : List (Lit × DataW H) → Nat
  | [] => 0
  | x :: r => uptoBulkEntry x + uptoBulkEntries r
def uptoBulkEntry {H : Type} : Lit × DataW H → Nat
  | (.string bytes, d) => bytes.length + uptoBulk d + 1
  | (_, d) => uptoBulk d + 1
 end
def uptoSmall : (H : Type) → List (DataW H) → Bool := fun _ ds => decide (uptoBulkAll ds ≤ 1048576)
def OpenSpec.upto (s : _root_.Go.ChangeSpec) : _root_.Go.OpenSpec := { _root_.Go.OpenSpec.ofChange s with cond := some uptoSmall }

/-- 'areopaguslaw06.TreeAbove', WHERE WHAT IT READS IS OF BULK AT MOST 1048576: true; the input reads as it did. -/
def treeAboveUptoRow : OpenClaim := { program := "ytoifhpcpahfddaa", sum := "c43c174bcf2deb65c05f8674190975cf3974dc7cbe2d1329db4e2b3e4632cb36", func := "areopagus/areopaguslaw06.TreeAbove", spec := "treeAbove", unfollowed := true, recurses := true, plainKeys := false, apart := false, narrowed := true }
def TreeAboveUptoSaid : Prop := treeAboveUptoRow.holds Try.pinned (OpenSpec.upto treeAboveSpec)

/-- 'areopaguslaw06.TreeAt', WHERE WHAT IT READS IS OF BULK AT MOST 1048576: true; the input reads as it did. -/
def treeAtUptoRow : OpenClaim := { program := "ytoifhpcpahfddaa", sum := "c43c174bcf2deb65c05f8674190975cf3974dc7cbe2d1329db4e2b3e4632cb36", func := "areopagus/areopaguslaw06.TreeAt", spec := "treeAt", unfollowed := true, recurses := true, plainKeys := false, apart := false, narrowed := true }
def TreeAtUptoSaid : Prop := treeAtUptoRow.holds Try.pinned (OpenSpec.upto treeAtSpec)

/-- 'areopaguslaw06.TreeCut', WHERE WHAT IT READS IS OF BULK AT MOST 1048576: true; the input reads as it did. -/
def treeCutUptoRow : OpenClaim := { program := "ytoifhpcpahfddaa", sum := "c43c174bcf2deb65c05f8674190975cf3974dc7cbe2d1329db4e2b3e4632cb36", func := "areopagus/areopaguslaw06.TreeCut", spec := "treeCut", unfollowed := true, recurses := true, plainKeys := false, apart := false, narrowed := true }
def TreeCutUptoSaid : Prop := treeCutUptoRow.holds Try.pinned (OpenSpec.upto treeCutSpec)

/-- 'areopaguslaw06.TreeKids', WHERE WHAT IT READS IS OF BULK AT MOST 1048576: true; the input reads as it did. -/
def treeKidsUptoRow : OpenClaim := { program := "ytoifhpcpahfddaa", sum := "c43c174bcf2deb65c05f8674190975cf3974dc7cbe2d1329db4e2b3e4632cb36", func := "areopagus/areopaguslaw06.TreeKids", spec := "treeKids", unfollowed := true, recurses := true, plainKeys := false, apart := false, narrowed := true }
def TreeKidsUptoSaid : Prop := treeKidsUptoRow.holds Try.pinned (OpenSpec.upto treeKidsSpec)

/-- 'areopaguslaw06.TreeFinds', WHERE WHAT IT READS IS OF BULK AT MOST 1048576: true; the input reads as it did. -/
def treeFindsUptoRow : OpenClaim := { program := "ytoifhpcpahfddaa", sum := "c43c174bcf2deb65c05f8674190975cf3974dc7cbe2d1329db4e2b3e4632cb36", func := "areopagus/areopaguslaw06.TreeFinds", spec := "treeFinds", unfollowed := true, recurses := true, plainKeys := false, apart := false, narrowed := true }
def TreeFindsUptoSaid : Prop := treeFindsUptoRow.holds Try.pinned (OpenSpec.upto treeFindsSpec)

/-- 'areopaguslaw06.TreeLast', WHERE WHAT IT READS IS OF BULK AT MOST 1048576: true; the input reads as it did. -/
def treeLastUptoRow : OpenClaim := { program := "ytoifhpcpahfddaa", sum := "c43c174bcf2deb65c05f8674190975cf3974dc7cbe2d1329db4e2b3e4632cb36", func := "areopagus/areopaguslaw06.TreeLast", spec := "treeLast", unfollowed := true, recurses := true, plainKeys := false, apart := false, narrowed := true }
def TreeLastUptoSaid : Prop := treeLastUptoRow.holds Try.pinned (OpenSpec.upto treeLastSpec)

/-- 'areopaguslaw06.TreeInsert', WHERE WHAT IT READS IS OF BULK AT MOST 1048576: true; the input reads as it did. -/
def treeInsertUptoRow : OpenClaim := { program := "ytoifhpcpahfddaa", sum := "c43c174bcf2deb65c05f8674190975cf3974dc7cbe2d1329db4e2b3e4632cb36", func := "areopagus/areopaguslaw06.TreeInsert", spec := "treeInsert", unfollowed := true, recurses := true, plainKeys := false, apart := false, narrowed := true }
def TreeInsertUptoSaid : Prop := treeInsertUptoRow.holds Try.pinned (OpenSpec.upto treeInsertSpec)

/-- 'areopaguslaw06.TreeTells', WHERE WHAT IT READS IS OF BULK AT MOST 1048576: true; the input reads as it did. -/
def treeTellsUptoRow : OpenClaim := { program := "ytoifhpcpahfddaa", sum := "c43c174bcf2deb65c05f8674190975cf3974dc7cbe2d1329db4e2b3e4632cb36", func := "areopagus/areopaguslaw06.TreeTells", spec := "treeTells", unfollowed := true, recurses := true, plainKeys := false, apart := false, narrowed := true }
def TreeTellsUptoSaid : Prop := treeTellsUptoRow.holds Try.pinned (OpenSpec.upto treeTellsSpec)

end Rows
end Go.Proofs.Ytoifhpcpahfddaa
