/-
  No cell of these rows narrows 'for every input' (looked for: loops, veiled, ifaces, maps, wideKeys, modest, calm, conditions, laid).
  DERIVED. THE GIVEN ROWS OF THIS SEAT. 6 by the template 'for every input the law returns true; each argument reads behind the call as it read before'; 0 by the template 'total and deterministic' (their statements: YtfngnajcmdaphaaTotals.lean).
  GIVEN WITH THE SEED: the statements are not yours to turn. If you find one false, say at which input.
  Laid BY PROGRAM, IN A SANDBOX (cutbox-rows.mjs): the forced cells as the released guide's own fill.sh prints them over the translation 14e15f09cc8e38e8… (all of the seat's roots in one cut). By AI agents, Wed Nov 11 2026. No macro, syntax, notation, axiom, sorry.
-/
import Derived.Test.YtfngnajcmdaphaaChecked
import GoSem.Claim
import GoSem.ClaimJoined
import GoSem.ClaimMapViews
import Derived.JoinedTies
import Derived.KernelRfl
namespace Go.Proofs.Ytfngnajcmdaphaa
/- THE CELL 'sum', in the pinned program and in every row, IS THE sha256 OF THE DUMP (.gsa) THAT YtfngnajcmdaphaaProg.lean LOADS. Nothing in Lean hashes anything: it is a label: what it is worth is what the hold of that sum in a sandbox is worth. -/
noncomputable def Try.pinned : Pinned := { name := "ytfngnajcmdaphaa", sum := "14e15f09cc8e38e8e1bb393e1e90d1fbca8864d5ecaa27bc1ffc6c43ccbe6b6f", checked := Try.checked }
namespace Rows
def none {H : Type} : Left H := { results := [], args := [] }

/-- 'areopaguslaw05.BoxOrder': WHATEVER THE INPUT: true; the input reads as it did. -/
def boxOrderSpec : ChangeSpec := { name := "boxOrder", fn := fun _ => fun
  | [d1, d2] => { results := [.lit (.bool true)], args := [d1, d2] }
  | _ => none }
def boxOrderRow : OpenClaim := { program := "ytfngnajcmdaphaa", sum := "14e15f09cc8e38e8e1bb393e1e90d1fbca8864d5ecaa27bc1ffc6c43ccbe6b6f", func := "areopagus/areopaguslaw05.BoxOrder", spec := "boxOrder", unfollowed := true, recurses := true, apart := false }
def BoxOrderSaid : Prop := boxOrderRow.holds Try.pinned (OpenSpec.ofChange boxOrderSpec)

/-- ITS FALSE NEIGHBOUR: 'it returns false'. Refute it at one input. -/
def boxOrderWrong : ChangeSpec := { name := "boxOrder", fn := fun _ => fun
  | [d1, d2] => { results := [.lit (.bool false)], args := [d1, d2] }
  | _ => none }
def BoxOrderWrongFalsely : Prop := boxOrderRow.holds Try.pinned (OpenSpec.ofChange boxOrderWrong)

/-- 'areopaguslaw05.BoxTwice': WHATEVER THE INPUT: true; the input reads as it did. -/
def boxTwiceSpec : ChangeSpec := { name := "boxTwice", fn := fun _ => fun
  | [d1, d2, d3] => { results := [.lit (.bool true)], args := [d1, d2, d3] }
  | _ => none }
def boxTwiceRow : OpenClaim := { program := "ytfngnajcmdaphaa", sum := "14e15f09cc8e38e8e1bb393e1e90d1fbca8864d5ecaa27bc1ffc6c43ccbe6b6f", func := "areopagus/areopaguslaw05.BoxTwice", spec := "boxTwice", unfollowed := true, recurses := true, apart := false }
def BoxTwiceSaid : Prop := boxTwiceRow.holds Try.pinned (OpenSpec.ofChange boxTwiceSpec)

/-- ITS FALSE NEIGHBOUR: 'it returns false'. Refute it at one input. -/
def boxTwiceWrong : ChangeSpec := { name := "boxTwice", fn := fun _ => fun
  | [d1, d2, d3] => { results := [.lit (.bool false)], args := [d1, d2, d3] }
  | _ => none }
def BoxTwiceWrongFalsely : Prop := boxTwiceRow.holds Try.pinned (OpenSpec.ofChange boxTwiceWrong)

/-- 'areopaguslaw05.BoxTakes': WHATEVER THE INPUT: true; the input reads as it did. -/
def boxTakesSpec : ChangeSpec := { name := "boxTakes", fn := fun _ => fun
  | [d] => { results := [.lit (.bool true)], args := [d] }
  | _ => none }
def boxTakesRow : OpenClaim := { program := "ytfngnajcmdaphaa", sum := "14e15f09cc8e38e8e1bb393e1e90d1fbca8864d5ecaa27bc1ffc6c43ccbe6b6f", func := "areopagus/areopaguslaw05.BoxTakes", spec := "boxTakes", unfollowed := true, recurses := true, apart := false }
def BoxTakesSaid : Prop := boxTakesRow.holds Try.pinned (OpenSpec.ofChange boxTakesSpec)

/-- ITS FALSE NEIGHBOUR: 'it returns false'. Refute it at one input. -/
def boxTakesWrong : ChangeSpec := { name := "boxTakes", fn := fun _ => fun
  | [d] => { results := [.lit (.bool false)], args := [d] }
  | _ => none }
def BoxTakesWrongFalsely : Prop := boxTakesRow.holds Try.pinned (OpenSpec.ofChange boxTakesWrong)

/-- 'areopaguslaw05.BoxTells': WHATEVER THE INPUT: true; the input reads as it did. -/
def boxTellsSpec : ChangeSpec := { name := "boxTells", fn := fun _ => fun
  | [d1, d2, d3, d4] => { results := [.lit (.bool true)], args := [d1, d2, d3, d4] }
  | _ => none }
def boxTellsRow : OpenClaim := { program := "ytfngnajcmdaphaa", sum := "14e15f09cc8e38e8e1bb393e1e90d1fbca8864d5ecaa27bc1ffc6c43ccbe6b6f", func := "areopagus/areopaguslaw05.BoxTells", spec := "boxTells", unfollowed := true, recurses := true, apart := false }
def BoxTellsSaid : Prop := boxTellsRow.holds Try.pinned (OpenSpec.ofChange boxTellsSpec)

/-- ITS FALSE NEIGHBOUR: 'it returns false'. Refute it at one input. -/
def boxTellsWrong : ChangeSpec := { name := "boxTells", fn := fun _ => fun
  | [d1, d2, d3, d4] => { results := [.lit (.bool false)], args := [d1, d2, d3, d4] }
  | _ => none }
def BoxTellsWrongFalsely : Prop := boxTellsRow.holds Try.pinned (OpenSpec.ofChange boxTellsWrong)

/-- 'areopaguslaw05.BoxClose': WHATEVER THE INPUT: true; the input reads as it did. -/
def boxCloseSpec : ChangeSpec := { name := "boxClose", fn := fun _ => fun
  | [d1, d2] => { results := [.lit (.bool true)], args := [d1, d2] }
  | _ => none }
def boxCloseRow : OpenClaim := { program := "ytfngnajcmdaphaa", sum := "14e15f09cc8e38e8e1bb393e1e90d1fbca8864d5ecaa27bc1ffc6c43ccbe6b6f", func := "areopagus/areopaguslaw05.BoxClose", spec := "boxClose", unfollowed := true, recurses := true, apart := false }
def BoxCloseSaid : Prop := boxCloseRow.holds Try.pinned (OpenSpec.ofChange boxCloseSpec)

/-- ITS FALSE NEIGHBOUR: 'it returns false'. Refute it at one input. -/
def boxCloseWrong : ChangeSpec := { name := "boxClose", fn := fun _ => fun
  | [d1, d2] => { results := [.lit (.bool false)], args := [d1, d2] }
  | _ => none }
def BoxCloseWrongFalsely : Prop := boxCloseRow.holds Try.pinned (OpenSpec.ofChange boxCloseWrong)

/-- 'areopaguslaw05.BoxRoom': WHATEVER THE INPUT: true; the input reads as it did. -/
def boxRoomSpec : ChangeSpec := { name := "boxRoom", fn := fun _ => fun
  | [d1, d2] => { results := [.lit (.bool true)], args := [d1, d2] }
  | _ => none }
def boxRoomRow : OpenClaim := { program := "ytfngnajcmdaphaa", sum := "14e15f09cc8e38e8e1bb393e1e90d1fbca8864d5ecaa27bc1ffc6c43ccbe6b6f", func := "areopagus/areopaguslaw05.BoxRoom", spec := "boxRoom", unfollowed := true, recurses := true, apart := false }
def BoxRoomSaid : Prop := boxRoomRow.holds Try.pinned (OpenSpec.ofChange boxRoomSpec)

/-- ITS FALSE NEIGHBOUR: 'it returns false'. Refute it at one input. -/
def boxRoomWrong : ChangeSpec := { name := "boxRoom", fn := fun _ => fun
  | [d1, d2] => { results := [.lit (.bool false)], args := [d1, d2] }
  | _ => none }
def BoxRoomWrongFalsely : Prop := boxRoomRow.holds Try.pinned (OpenSpec.ofChange boxRoomWrong)

/- THE SECOND FORM. 'bulk': how many values and letters a reading holds, each counted each time it is reached (what is shared counts as often as it is met; a slice's spare places count too). A statement '..UptoSaid' is the law's where the arguments, and the package variables that the reading takes, are together of bulk at most 1048576: NARROWER than '..Said'. Prove '..Said' where nothing that the law and all that it calls make is longer than what came in: it says more and counts as full. Else prove '..UptoSaid'. A law counts once. -/
mutual
def uptoBulk {H : Type} : DataW H → Nat
  | .lit (.string bytes) => bytes.length + 1
  | .lit _ => 1
  | .nil => 1
  | .ptr d => uptoBulk d + 1
  | .slice elems spare => uptoBulkAll elems + uptoBulkAll spare + 1
  | .agg parts => uptoBulkAll parts + 1
  | .iface _ d => uptoBulk d + 1
  | .map entries => uptoBulkEntries entries + 1
  | .held _ => 1
def uptoBulkAll {H : Type} : List (DataW H) → Nat
  | [] => 0
  | d :: r => uptoBulk d + uptoBulkAll r
def uptoBulkEntries {H : Type} : List (Lit × DataW H) → Nat
  | [] => 0
  | x :: r => uptoBulkEntry x + uptoBulkEntries r
def uptoBulkEntry {H : Type} : Lit × DataW H → Nat
  | (.string bytes, d) => bytes.length + uptoBulk d + 1
  | (_, d) => uptoBulk d + 1
 end
def uptoSmall : (H : Type) → List (DataW H) → Bool := fun _ ds => decide (uptoBulkAll ds ≤ 1048576)
def OpenSpec.upto (s : _root_.Go.ChangeSpec) : _root_.Go.OpenSpec := { _root_.Go.OpenSpec.ofChange s with cond := some uptoSmall }

/-- 'areopaguslaw05.BoxOrder', WHERE WHAT IT READS IS OF BULK AT MOST 1048576: true; the input reads as it did. -/
def boxOrderUptoRow : OpenClaim := { program := "ytfngnajcmdaphaa", sum := "14e15f09cc8e38e8e1bb393e1e90d1fbca8864d5ecaa27bc1ffc6c43ccbe6b6f", func := "areopagus/areopaguslaw05.BoxOrder", spec := "boxOrder", unfollowed := true, recurses := true, apart := false, narrowed := true }
def BoxOrderUptoSaid : Prop := boxOrderUptoRow.holds Try.pinned (OpenSpec.upto boxOrderSpec)

/-- 'areopaguslaw05.BoxTwice', WHERE WHAT IT READS IS OF BULK AT MOST 1048576: true; the input reads as it did. -/
def boxTwiceUptoRow : OpenClaim := { program := "ytfngnajcmdaphaa", sum := "14e15f09cc8e38e8e1bb393e1e90d1fbca8864d5ecaa27bc1ffc6c43ccbe6b6f", func := "areopagus/areopaguslaw05.BoxTwice", spec := "boxTwice", unfollowed := true, recurses := true, apart := false, narrowed := true }
def BoxTwiceUptoSaid : Prop := boxTwiceUptoRow.holds Try.pinned (OpenSpec.upto boxTwiceSpec)

/-- 'areopaguslaw05.BoxTakes', WHERE WHAT IT READS IS OF BULK AT MOST 1048576: true; the input reads as it did. -/
def boxTakesUptoRow : OpenClaim := { program := "ytfngnajcmdaphaa", sum := "14e15f09cc8e38e8e1bb393e1e90d1fbca8864d5ecaa27bc1ffc6c43ccbe6b6f", func := "areopagus/areopaguslaw05.BoxTakes", spec := "boxTakes", unfollowed := true, recurses := true, apart := false, narrowed := true }
def BoxTakesUptoSaid : Prop := boxTakesUptoRow.holds Try.pinned (OpenSpec.upto boxTakesSpec)

/-- 'areopaguslaw05.BoxTells', WHERE WHAT IT READS IS OF BULK AT MOST 1048576: true; the input reads as it did. -/
def boxTellsUptoRow : OpenClaim := { program := "ytfngnajcmdaphaa", sum := "14e15f09cc8e38e8e1bb393e1e90d1fbca8864d5ecaa27bc1ffc6c43ccbe6b6f", func := "areopagus/areopaguslaw05.BoxTells", spec := "boxTells", unfollowed := true, recurses := true, apart := false, narrowed := true }
def BoxTellsUptoSaid : Prop := boxTellsUptoRow.holds Try.pinned (OpenSpec.upto boxTellsSpec)

/-- 'areopaguslaw05.BoxClose', WHERE WHAT IT READS IS OF BULK AT MOST 1048576: true; the input reads as it did. -/
def boxCloseUptoRow : OpenClaim := { program := "ytfngnajcmdaphaa", sum := "14e15f09cc8e38e8e1bb393e1e90d1fbca8864d5ecaa27bc1ffc6c43ccbe6b6f", func := "areopagus/areopaguslaw05.BoxClose", spec := "boxClose", unfollowed := true, recurses := true, apart := false, narrowed := true }
def BoxCloseUptoSaid : Prop := boxCloseUptoRow.holds Try.pinned (OpenSpec.upto boxCloseSpec)

/-- 'areopaguslaw05.BoxRoom', WHERE WHAT IT READS IS OF BULK AT MOST 1048576: true; the input reads as it did. -/
def boxRoomUptoRow : OpenClaim := { program := "ytfngnajcmdaphaa", sum := "14e15f09cc8e38e8e1bb393e1e90d1fbca8864d5ecaa27bc1ffc6c43ccbe6b6f", func := "areopagus/areopaguslaw05.BoxRoom", spec := "boxRoom", unfollowed := true, recurses := true, apart := false, narrowed := true }
def BoxRoomUptoSaid : Prop := boxRoomUptoRow.holds Try.pinned (OpenSpec.upto boxRoomSpec)

end Rows
end Go.Proofs.Ytfngnajcmdaphaa
