/-
  No cell of these rows narrows 'for every input' (looked for: loops, veiled, ifaces, maps, wideKeys, modest, calm, conditions, laid).
  DERIVED. THE GIVEN ROWS OF THIS SEAT. 8 by the template 'for every input the law returns true; each argument reads behind the call as it read before'; 0 by the template 'total and deterministic' (their statements: YthonlbimdbdfgaaTotals.lean).
  GIVEN WITH THE SEED: the statements are not yours to turn. If you find one false, say at which input.
  Laid BY PROGRAM, IN A SANDBOX (cutbox-rows.mjs): the forced cells as the released guide's own fill.sh prints them over the translation 19b7b3f2db65b7c9… (all of the seat's roots in one cut). By AI agents, Wed Nov 11 2026. No macro, syntax, notation, axiom, sorry.
-/
import Derived.Test.YthonlbimdbdfgaaChecked
import GoSem.Claim
import GoSem.ClaimJoined
import GoSem.ClaimMapViews
import Derived.JoinedTies
import Derived.KernelRfl
namespace Go.Proofs.Ythonlbimdbdfgaa
/- THE CELL 'sum', in the pinned program and in every row, IS THE sha256 OF THE DUMP (.gsa) THAT YthonlbimdbdfgaaProg.lean LOADS. Nothing in Lean hashes anything: it is a label: what it is worth is what the hold of that sum in a sandbox is worth. -/
noncomputable def Try.pinned : Pinned := { name := "ythonlbimdbdfgaa", sum := "19b7b3f2db65b7c9321c524c10b34c0be8b85d0cfd02a96cfb7b47ae378e63e8", checked := Try.checked }
namespace Rows
def none {H : Type} : Left H := { results := [], args := [] }

/-- 'areopaguslaw01.NumCommon': WHATEVER THE INPUT: true; the input reads as it did. -/
def numCommonSpec : ChangeSpec := { name := "numCommon", fn := fun _ => fun
  | [d1, d2, d3] => { results := [.lit (.bool true)], args := [d1, d2, d3] }
  | _ => none }
def numCommonRow : OpenClaim := { program := "ythonlbimdbdfgaa", sum := "19b7b3f2db65b7c9321c524c10b34c0be8b85d0cfd02a96cfb7b47ae378e63e8", func := "areopagus/areopaguslaw01.NumCommon", spec := "numCommon", inPlace := ["math/bits.Add64", "math/bits.Sub64"], unfollowed := true, recurses := true, apart := false }
def NumCommonSaid : Prop := numCommonRow.holds Try.pinned (OpenSpec.ofChange numCommonSpec)

/-- ITS FALSE NEIGHBOUR: 'it returns false'. Refute it at one input. -/
def numCommonWrong : ChangeSpec := { name := "numCommon", fn := fun _ => fun
  | [d1, d2, d3] => { results := [.lit (.bool false)], args := [d1, d2, d3] }
  | _ => none }
def NumCommonWrongFalsely : Prop := numCommonRow.holds Try.pinned (OpenSpec.ofChange numCommonWrong)

/-- 'areopaguslaw01.NumParts': WHATEVER THE INPUT: true; the input reads as it did. -/
def numPartsSpec : ChangeSpec := { name := "numParts", fn := fun _ => fun
  | [d1, d2, d3] => { results := [.lit (.bool true)], args := [d1, d2, d3] }
  | _ => none }
def numPartsRow : OpenClaim := { program := "ythonlbimdbdfgaa", sum := "19b7b3f2db65b7c9321c524c10b34c0be8b85d0cfd02a96cfb7b47ae378e63e8", func := "areopagus/areopaguslaw01.NumParts", spec := "numParts", inPlace := ["math/bits.Add64", "math/bits.Sub64"], unfollowed := true, recurses := true, apart := false }
def NumPartsSaid : Prop := numPartsRow.holds Try.pinned (OpenSpec.ofChange numPartsSpec)

/-- ITS FALSE NEIGHBOUR: 'it returns false'. Refute it at one input. -/
def numPartsWrong : ChangeSpec := { name := "numParts", fn := fun _ => fun
  | [d1, d2, d3] => { results := [.lit (.bool false)], args := [d1, d2, d3] }
  | _ => none }
def NumPartsWrongFalsely : Prop := numPartsRow.holds Try.pinned (OpenSpec.ofChange numPartsWrong)

/-- 'areopaguslaw01.NumThree': WHATEVER THE INPUT: true; the input reads as it did. -/
def numThreeSpec : ChangeSpec := { name := "numThree", fn := fun _ => fun
  | [d1, d2, d3] => { results := [.lit (.bool true)], args := [d1, d2, d3] }
  | _ => none }
def numThreeRow : OpenClaim := { program := "ythonlbimdbdfgaa", sum := "19b7b3f2db65b7c9321c524c10b34c0be8b85d0cfd02a96cfb7b47ae378e63e8", func := "areopagus/areopaguslaw01.NumThree", spec := "numThree", inPlace := ["math/bits.Add64", "math/bits.Sub64"], unfollowed := true, recurses := true, apart := false }
def NumThreeSaid : Prop := numThreeRow.holds Try.pinned (OpenSpec.ofChange numThreeSpec)

/-- ITS FALSE NEIGHBOUR: 'it returns false'. Refute it at one input. -/
def numThreeWrong : ChangeSpec := { name := "numThree", fn := fun _ => fun
  | [d1, d2, d3] => { results := [.lit (.bool false)], args := [d1, d2, d3] }
  | _ => none }
def NumThreeWrongFalsely : Prop := numThreeRow.holds Try.pinned (OpenSpec.ofChange numThreeWrong)

/-- 'areopaguslaw01.NumThirds': WHATEVER THE INPUT: true; the input reads as it did. -/
def numThirdsSpec : ChangeSpec := { name := "numThirds", fn := fun _ => fun
  | [d] => { results := [.lit (.bool true)], args := [d] }
  | _ => none }
def numThirdsRow : OpenClaim := { program := "ythonlbimdbdfgaa", sum := "19b7b3f2db65b7c9321c524c10b34c0be8b85d0cfd02a96cfb7b47ae378e63e8", func := "areopagus/areopaguslaw01.NumThirds", spec := "numThirds", inPlace := ["math/bits.Add64", "math/bits.Sub64"], unfollowed := true, recurses := true, apart := false }
def NumThirdsSaid : Prop := numThirdsRow.holds Try.pinned (OpenSpec.ofChange numThirdsSpec)

/-- ITS FALSE NEIGHBOUR: 'it returns false'. Refute it at one input. -/
def numThirdsWrong : ChangeSpec := { name := "numThirds", fn := fun _ => fun
  | [d] => { results := [.lit (.bool false)], args := [d] }
  | _ => none }
def NumThirdsWrongFalsely : Prop := numThirdsRow.holds Try.pinned (OpenSpec.ofChange numThirdsWrong)

/-- 'areopaguslaw01.NumEnds': WHATEVER THE INPUT: true; the input reads as it did. -/
def numEndsSpec : ChangeSpec := { name := "numEnds", fn := fun _ => fun
  | [d1, d2] => { results := [.lit (.bool true)], args := [d1, d2] }
  | _ => none }
def numEndsRow : OpenClaim := { program := "ythonlbimdbdfgaa", sum := "19b7b3f2db65b7c9321c524c10b34c0be8b85d0cfd02a96cfb7b47ae378e63e8", func := "areopagus/areopaguslaw01.NumEnds", spec := "numEnds", inPlace := ["math/bits.Add64", "math/bits.Sub64"], unfollowed := true, recurses := true, apart := false }
def NumEndsSaid : Prop := numEndsRow.holds Try.pinned (OpenSpec.ofChange numEndsSpec)

/-- ITS FALSE NEIGHBOUR: 'it returns false'. Refute it at one input. -/
def numEndsWrong : ChangeSpec := { name := "numEnds", fn := fun _ => fun
  | [d1, d2] => { results := [.lit (.bool false)], args := [d1, d2] }
  | _ => none }
def NumEndsWrongFalsely : Prop := numEndsRow.holds Try.pinned (OpenSpec.ofChange numEndsWrong)

/-- 'areopaguslaw01.NumBack': WHATEVER THE INPUT: true; the input reads as it did. -/
def numBackSpec : ChangeSpec := { name := "numBack", fn := fun _ => fun
  | [d1, d2] => { results := [.lit (.bool true)], args := [d1, d2] }
  | _ => none }
def numBackRow : OpenClaim := { program := "ythonlbimdbdfgaa", sum := "19b7b3f2db65b7c9321c524c10b34c0be8b85d0cfd02a96cfb7b47ae378e63e8", func := "areopagus/areopaguslaw01.NumBack", spec := "numBack", inPlace := ["math/bits.Add64", "math/bits.Sub64"], unfollowed := true, recurses := true, apart := false }
def NumBackSaid : Prop := numBackRow.holds Try.pinned (OpenSpec.ofChange numBackSpec)

/-- ITS FALSE NEIGHBOUR: 'it returns false'. Refute it at one input. -/
def numBackWrong : ChangeSpec := { name := "numBack", fn := fun _ => fun
  | [d1, d2] => { results := [.lit (.bool false)], args := [d1, d2] }
  | _ => none }
def NumBackWrongFalsely : Prop := numBackRow.holds Try.pinned (OpenSpec.ofChange numBackWrong)

/-- 'areopaguslaw01.NumOrder': WHATEVER THE INPUT: true; the input reads as it did. -/
def numOrderSpec : ChangeSpec := { name := "numOrder", fn := fun _ => fun
  | [d1, d2] => { results := [.lit (.bool true)], args := [d1, d2] }
  | _ => none }
def numOrderRow : OpenClaim := { program := "ythonlbimdbdfgaa", sum := "19b7b3f2db65b7c9321c524c10b34c0be8b85d0cfd02a96cfb7b47ae378e63e8", func := "areopagus/areopaguslaw01.NumOrder", spec := "numOrder", inPlace := ["math/bits.Add64", "math/bits.Sub64"], unfollowed := true, recurses := true, apart := false }
def NumOrderSaid : Prop := numOrderRow.holds Try.pinned (OpenSpec.ofChange numOrderSpec)

/-- ITS FALSE NEIGHBOUR: 'it returns false'. Refute it at one input. -/
def numOrderWrong : ChangeSpec := { name := "numOrder", fn := fun _ => fun
  | [d1, d2] => { results := [.lit (.bool false)], args := [d1, d2] }
  | _ => none }
def NumOrderWrongFalsely : Prop := numOrderRow.holds Try.pinned (OpenSpec.ofChange numOrderWrong)

/-- 'areopaguslaw01.NumTells': WHATEVER THE INPUT: true; the input reads as it did. -/
def numTellsSpec : ChangeSpec := { name := "numTells", fn := fun _ => fun
  | [d1, d2] => { results := [.lit (.bool true)], args := [d1, d2] }
  | _ => none }
def numTellsRow : OpenClaim := { program := "ythonlbimdbdfgaa", sum := "19b7b3f2db65b7c9321c524c10b34c0be8b85d0cfd02a96cfb7b47ae378e63e8", func := "areopagus/areopaguslaw01.NumTells", spec := "numTells", inPlace := ["math/bits.Add64", "math/bits.Sub64"], unfollowed := true, recurses := true, apart := false }
def NumTellsSaid : Prop := numTellsRow.holds Try.pinned (OpenSpec.ofChange numTellsSpec)

/-- ITS FALSE NEIGHBOUR: 'it returns false'. Refute it at one input. -/
def numTellsWrong : ChangeSpec := { name := "numTells", fn := fun _ => fun
  | [d1, d2] => { results := [.lit (.bool false)], args := [d1, d2] }
  | _ => none }
def NumTellsWrongFalsely : Prop := numTellsRow.holds Try.pinned (OpenSpec.ofChange numTellsWrong)

/- THE SECOND FORM. 'bulk': how many values and letters a reading holds, each counted each time it is reached (what is shared counts as often as it is met; a slice's spare places count too). A statement '..UptoSaid' is the law's where the arguments, and the package variables that the reading takes, are together of bulk at most 1048576: NARROWER than '..Said'. Prove '..Said' where nothing that the law and all that it calls make is longer than what came in: it says more and counts as full. Else prove '..UptoSaid'. A law counts once. -/
mutual
def uptoBulk {H : Type} : DataW H → Nat
  | .lit (.string bytes) => bytes.length + 1
  | .lit _ => 1
  | .nil => 1
  | .ptr d => uptoBulk d + 1
  | .slice elems spare => uptoBulkAll elems + uptoBulkAll spare + 1
  | .agg parts => uptoBulkAll parts + 1
  | .iface _ d => uptoBulk d + 1
  | .map entries => uptoBulkEntries entries + 1
  | .held _ => 1
def uptoBulkAll {H : Type} : List (DataW H) → Nat
  | [] => 0
  | d :: r => uptoBulk d + uptoBulkAll r
def uptoBulkEntries {H : Type} : List (Lit × DataW H) → Nat
  | [] => 0
  | x :: r => uptoBulkEntry x + uptoBulkEntries r
def uptoBulkEntry {H : Type} : Lit × DataW H → Nat
  | (.string bytes, d) => bytes.length + uptoBulk d + 1
  | (_, d) => uptoBulk d + 1
 end
def uptoSmall : (H : Type) → List (DataW H) → Bool := fun _ ds => decide (uptoBulkAll ds ≤ 1048576)
def OpenSpec.upto (s : _root_.Go.ChangeSpec) : _root_.Go.OpenSpec := { _root_.Go.OpenSpec.ofChange s with cond := some uptoSmall }

/-- 'areopaguslaw01.NumCommon', WHERE WHAT IT READS IS OF BULK AT MOST 1048576: true; the input reads as it did. -/
def numCommonUptoRow : OpenClaim := { program := "ythonlbimdbdfgaa", sum := "19b7b3f2db65b7c9321c524c10b34c0be8b85d0cfd02a96cfb7b47ae378e63e8", func := "areopagus/areopaguslaw01.NumCommon", spec := "numCommon", inPlace := ["math/bits.Add64", "math/bits.Sub64"], unfollowed := true, recurses := true, apart := false, narrowed := true }
def NumCommonUptoSaid : Prop := numCommonUptoRow.holds Try.pinned (OpenSpec.upto numCommonSpec)

/-- 'areopaguslaw01.NumParts', WHERE WHAT IT READS IS OF BULK AT MOST 1048576: true; the input reads as it did. -/
def numPartsUptoRow : OpenClaim := { program := "ythonlbimdbdfgaa", sum := "19b7b3f2db65b7c9321c524c10b34c0be8b85d0cfd02a96cfb7b47ae378e63e8", func := "areopagus/areopaguslaw01.NumParts", spec := "numParts", inPlace := ["math/bits.Add64", "math/bits.Sub64"], unfollowed := true, recurses := true, apart := false, narrowed := true }
def NumPartsUptoSaid : Prop := numPartsUptoRow.holds Try.pinned (OpenSpec.upto numPartsSpec)

/-- 'areopaguslaw01.NumThree', WHERE WHAT IT READS IS OF BULK AT MOST 1048576: true; the input reads as it did. -/
def numThreeUptoRow : OpenClaim := { program := "ythonlbimdbdfgaa", sum := "19b7b3f2db65b7c9321c524c10b34c0be8b85d0cfd02a96cfb7b47ae378e63e8", func := "areopagus/areopaguslaw01.NumThree", spec := "numThree", inPlace := ["math/bits.Add64", "math/bits.Sub64"], unfollowed := true, recurses := true, apart := false, narrowed := true }
def NumThreeUptoSaid : Prop := numThreeUptoRow.holds Try.pinned (OpenSpec.upto numThreeSpec)

/-- 'areopaguslaw01.NumThirds', WHERE WHAT IT READS IS OF BULK AT MOST 1048576: true; the input reads as it did. -/
def numThirdsUptoRow : OpenClaim := { program := "ythonlbimdbdfgaa", sum := "19b7b3f2db65b7c9321c524c10b34c0be8b85d0cfd02a96cfb7b47ae378e63e8", func := "areopagus/areopaguslaw01.NumThirds", spec := "numThirds", inPlace := ["math/bits.Add64", "math/bits.Sub64"], unfollowed := true, recurses := true, apart := false, narrowed := true }
def NumThirdsUptoSaid : Prop := numThirdsUptoRow.holds Try.pinned (OpenSpec.upto numThirdsSpec)

/-- 'areopaguslaw01.NumEnds', WHERE WHAT IT READS IS OF BULK AT MOST 1048576: true; the input reads as it did. -/
def numEndsUptoRow : OpenClaim := { program := "ythonlbimdbdfgaa", sum := "19b7b3f2db65b7c9321c524c10b34c0be8b85d0cfd02a96cfb7b47ae378e63e8", func := "areopagus/areopaguslaw01.NumEnds", spec := "numEnds", inPlace := ["math/bits.Add64", "math/bits.Sub64"], unfollowed := true, recurses := true, apart := false, narrowed := true }
def NumEndsUptoSaid : Prop := numEndsUptoRow.holds Try.pinned (OpenSpec.upto numEndsSpec)

/-- 'areopaguslaw01.NumBack', WHERE WHAT IT READS IS OF BULK AT MOST 1048576: true; the input reads as it did. -/
def numBackUptoRow : OpenClaim := { program := "ythonlbimdbdfgaa", sum := "19b7b3f2db65b7c9321c524c10b34c0be8b85d0cfd02a96cfb7b47ae378e63e8", func := "areopagus/areopaguslaw01.NumBack", spec := "numBack", inPlace := ["math/bits.Add64", "math/bits.Sub64"], unfollowed := true, recurses := true, apart := false, narrowed := true }
def NumBackUptoSaid : Prop := numBackUptoRow.holds Try.pinned (OpenSpec.upto numBackSpec)

/-- 'areopaguslaw01.NumOrder', WHERE WHAT IT READS IS OF BULK AT MOST 1048576: true; the input reads as it did. -/
def numOrderUptoRow : OpenClaim := { program := "ythonlbimdbdfgaa", sum := "19b7b3f2db65b7c9321c524c10b34c0be8b85d0cfd02a96cfb7b47ae378e63e8", func := "areopagus/areopaguslaw01.NumOrder", spec := "numOrder", inPlace := ["math/bits.Add64", "math/bits.Sub64"], unfollowed := true, recurses := true, apart := false, narrowed := true }
def NumOrderUptoSaid : Prop := numOrderUptoRow.holds Try.pinned (OpenSpec.upto numOrderSpec)

/-- 'areopaguslaw01.NumTells', WHERE WHAT IT READS IS OF BULK AT MOST 1048576: true; the input reads as it did. -/
def numTellsUptoRow : OpenClaim := { program := "ythonlbimdbdfgaa", sum := "19b7b3f2db65b7c9321c524c10b34c0be8b85d0cfd02a96cfb7b47ae378e63e8", func := "areopagus/areopaguslaw01.NumTells", spec := "numTells", inPlace := ["math/bits.Add64", "math/bits.Sub64"], unfollowed := true, recurses := true, apart := false, narrowed := true }
def NumTellsUptoSaid : Prop := numTellsUptoRow.holds Try.pinned (OpenSpec.upto numTellsSpec)

end Rows
end Go.Proofs.Ythonlbimdbdfgaa
