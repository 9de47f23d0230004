/-
  No cell of these rows narrows 'for every input' (looked for: loops, veiled, ifaces, maps, wideKeys, modest, calm, conditions, laid).
  DERIVED. THE GIVEN ROWS OF THIS SEAT. 6 by the template 'for every input the law returns true; each argument reads behind the call as it read before'; 0 by the template 'total and deterministic' (their statements: YtamibbcdklpncaaTotals.lean).
  GIVEN WITH THE SEED: the statements are not yours to turn. If you find one false, say at which input.
  Laid BY PROGRAM, IN A SANDBOX (cutbox-rows.mjs): the forced cells as the released guide's own fill.sh prints them over the translation 2db4ddf791f68e9f… (all of the seat's roots in one cut). By AI agents, Wed Nov 11 2026. No macro, syntax, notation, axiom, sorry.
-/
import Derived.Test.YtamibbcdklpncaaChecked
import GoSem.Claim
import GoSem.ClaimJoined
import GoSem.ClaimMapViews
import Derived.JoinedTies
import Derived.KernelRfl
namespace Go.Proofs.Ytamibbcdklpncaa
/- THE CELL 'sum', in the pinned program and in every row, IS THE sha256 OF THE DUMP (.gsa) THAT YtamibbcdklpncaaProg.lean LOADS. Nothing in Lean hashes anything: it is a label: what it is worth is what the hold of that sum in a sandbox is worth. -/
noncomputable def Try.pinned : Pinned := { name := "ytamibbcdklpncaa", sum := "2db4ddf791f68e9f171e58900e7161de68105c96cd7235b90ca55884082f8cfc", checked := Try.checked }
namespace Rows
def none {H : Type} : Left H := { results := [], args := [] }

/-- 'areopaguslaw02.RootTells': WHATEVER THE INPUT: true; the input reads as it did. -/
def rootTellsSpec : ChangeSpec := { name := "rootTells", fn := fun _ => fun
  | [d1, d2, d3, d4] => { results := [.lit (.bool true)], args := [d1, d2, d3, d4] }
  | _ => none }
def rootTellsRow : OpenClaim := { program := "ytamibbcdklpncaa", sum := "2db4ddf791f68e9f171e58900e7161de68105c96cd7235b90ca55884082f8cfc", func := "areopagus/areopaguslaw02.RootTells", spec := "rootTells", inPlace := ["internal/abi.NoEscape", "internal/bytealg.IndexByteString", "internal/bytealg.IndexString"], unfollowed := true, recurses := true, named := ["internal/bytealg.MaxLen"], plainKeys := false, apart := false }
def RootTellsSaid : Prop := rootTellsRow.holds Try.pinned (OpenSpec.ofChange rootTellsSpec)

/-- ITS FALSE NEIGHBOUR: 'it returns false'. Refute it at one input. -/
def rootTellsWrong : ChangeSpec := { name := "rootTells", fn := fun _ => fun
  | [d1, d2, d3, d4] => { results := [.lit (.bool false)], args := [d1, d2, d3, d4] }
  | _ => none }
def RootTellsWrongFalsely : Prop := rootTellsRow.holds Try.pinned (OpenSpec.ofChange rootTellsWrong)

/-- 'areopaguslaw02.RootBack': WHATEVER THE INPUT: true; the input reads as it did. -/
def rootBackSpec : ChangeSpec := { name := "rootBack", fn := fun _ => fun
  | [d1, d2, d3] => { results := [.lit (.bool true)], args := [d1, d2, d3] }
  | _ => none }
def rootBackRow : OpenClaim := { program := "ytamibbcdklpncaa", sum := "2db4ddf791f68e9f171e58900e7161de68105c96cd7235b90ca55884082f8cfc", func := "areopagus/areopaguslaw02.RootBack", spec := "rootBack", inPlace := ["internal/abi.NoEscape", "internal/bytealg.IndexByteString", "internal/bytealg.IndexString"], unfollowed := true, recurses := true, named := ["internal/bytealg.MaxLen"], plainKeys := false, apart := false }
def RootBackSaid : Prop := rootBackRow.holds Try.pinned (OpenSpec.ofChange rootBackSpec)

/-- ITS FALSE NEIGHBOUR: 'it returns false'. Refute it at one input. -/
def rootBackWrong : ChangeSpec := { name := "rootBack", fn := fun _ => fun
  | [d1, d2, d3] => { results := [.lit (.bool false)], args := [d1, d2, d3] }
  | _ => none }
def RootBackWrongFalsely : Prop := rootBackRow.holds Try.pinned (OpenSpec.ofChange rootBackWrong)

/-- 'areopaguslaw02.RootOrder': WHATEVER THE INPUT: true; the input reads as it did. -/
def rootOrderSpec : ChangeSpec := { name := "rootOrder", fn := fun _ => fun
  | [d1, d2, d3] => { results := [.lit (.bool true)], args := [d1, d2, d3] }
  | _ => none }
def rootOrderRow : OpenClaim := { program := "ytamibbcdklpncaa", sum := "2db4ddf791f68e9f171e58900e7161de68105c96cd7235b90ca55884082f8cfc", func := "areopagus/areopaguslaw02.RootOrder", spec := "rootOrder", inPlace := ["internal/abi.NoEscape", "internal/bytealg.IndexByteString", "internal/bytealg.IndexString"], unfollowed := true, recurses := true, named := ["internal/bytealg.MaxLen"], plainKeys := false, apart := false }
def RootOrderSaid : Prop := rootOrderRow.holds Try.pinned (OpenSpec.ofChange rootOrderSpec)

/-- ITS FALSE NEIGHBOUR: 'it returns false'. Refute it at one input. -/
def rootOrderWrong : ChangeSpec := { name := "rootOrder", fn := fun _ => fun
  | [d1, d2, d3] => { results := [.lit (.bool false)], args := [d1, d2, d3] }
  | _ => none }
def RootOrderWrongFalsely : Prop := rootOrderRow.holds Try.pinned (OpenSpec.ofChange rootOrderWrong)

/-- 'areopaguslaw02.RootSorts': WHATEVER THE INPUT: true; the input reads as it did. -/
def rootSortsSpec : ChangeSpec := { name := "rootSorts", fn := fun _ => fun
  | [d1, d2] => { results := [.lit (.bool true)], args := [d1, d2] }
  | _ => none }
def rootSortsRow : OpenClaim := { program := "ytamibbcdklpncaa", sum := "2db4ddf791f68e9f171e58900e7161de68105c96cd7235b90ca55884082f8cfc", func := "areopagus/areopaguslaw02.RootSorts", spec := "rootSorts", inPlace := ["internal/abi.NoEscape", "internal/bytealg.IndexByteString", "internal/bytealg.IndexString"], unfollowed := true, recurses := true, named := ["internal/bytealg.MaxLen"], plainKeys := false, apart := false }
def RootSortsSaid : Prop := rootSortsRow.holds Try.pinned (OpenSpec.ofChange rootSortsSpec)

/-- ITS FALSE NEIGHBOUR: 'it returns false'. Refute it at one input. -/
def rootSortsWrong : ChangeSpec := { name := "rootSorts", fn := fun _ => fun
  | [d1, d2] => { results := [.lit (.bool false)], args := [d1, d2] }
  | _ => none }
def RootSortsWrongFalsely : Prop := rootSortsRow.holds Try.pinned (OpenSpec.ofChange rootSortsWrong)

/-- 'areopaguslaw02.RootUnion': WHATEVER THE INPUT: true; the input reads as it did. -/
def rootUnionSpec : ChangeSpec := { name := "rootUnion", fn := fun _ => fun
  | [d1, d2] => { results := [.lit (.bool true)], args := [d1, d2] }
  | _ => none }
def rootUnionRow : OpenClaim := { program := "ytamibbcdklpncaa", sum := "2db4ddf791f68e9f171e58900e7161de68105c96cd7235b90ca55884082f8cfc", func := "areopagus/areopaguslaw02.RootUnion", spec := "rootUnion", inPlace := ["internal/abi.NoEscape", "internal/bytealg.IndexByteString", "internal/bytealg.IndexString"], unfollowed := true, recurses := true, named := ["internal/bytealg.MaxLen"], plainKeys := false, apart := false }
def RootUnionSaid : Prop := rootUnionRow.holds Try.pinned (OpenSpec.ofChange rootUnionSpec)

/-- ITS FALSE NEIGHBOUR: 'it returns false'. Refute it at one input. -/
def rootUnionWrong : ChangeSpec := { name := "rootUnion", fn := fun _ => fun
  | [d1, d2] => { results := [.lit (.bool false)], args := [d1, d2] }
  | _ => none }
def RootUnionWrongFalsely : Prop := rootUnionRow.holds Try.pinned (OpenSpec.ofChange rootUnionWrong)

/-- 'areopaguslaw02.RootDigits': WHATEVER THE INPUT: true; the input reads as it did. -/
def rootDigitsSpec : ChangeSpec := { name := "rootDigits", fn := fun _ => fun
  | [d1, d2] => { results := [.lit (.bool true)], args := [d1, d2] }
  | _ => none }
def rootDigitsRow : OpenClaim := { program := "ytamibbcdklpncaa", sum := "2db4ddf791f68e9f171e58900e7161de68105c96cd7235b90ca55884082f8cfc", func := "areopagus/areopaguslaw02.RootDigits", spec := "rootDigits", inPlace := ["internal/abi.NoEscape", "internal/bytealg.IndexByteString", "internal/bytealg.IndexString"], unfollowed := true, recurses := true, named := ["internal/bytealg.MaxLen"], plainKeys := false, apart := false }
def RootDigitsSaid : Prop := rootDigitsRow.holds Try.pinned (OpenSpec.ofChange rootDigitsSpec)

/-- ITS FALSE NEIGHBOUR: 'it returns false'. Refute it at one input. -/
def rootDigitsWrong : ChangeSpec := { name := "rootDigits", fn := fun _ => fun
  | [d1, d2] => { results := [.lit (.bool false)], args := [d1, d2] }
  | _ => none }
def RootDigitsWrongFalsely : Prop := rootDigitsRow.holds Try.pinned (OpenSpec.ofChange rootDigitsWrong)

/- THE SECOND FORM. 'bulk': how many values and letters a reading holds, each counted each time it is reached (what is shared counts as often as it is met; a slice's spare places count too). A statement '..UptoSaid' is the law's where the arguments, and the package variables that the reading takes, are together of bulk at most 1048576: NARROWER than '..Said'. Prove '..Said' where nothing that the law and all that it calls make is longer than what came in: it says more and counts as full. Else prove '..UptoSaid'. A law counts once. -/
mutual
def uptoBulk {H : Type} : DataW H → Nat
  | .lit (.string bytes) => bytes.length + 1
  | .lit _ => 1
  | .nil => 1
  | .ptr d => uptoBulk d + 1
  | .slice elems spare => uptoBulkAll elems + uptoBulkAll spare + 1
  | .agg parts => uptoBulkAll parts + 1
  | .iface _ d => uptoBulk d + 1
  | .map entries => uptoBulkEntries entries + 1
  | .held _ => 1
def uptoBulkAll {H : Type} : List (DataW H) → Nat
  | [] => 0
  | d :: r => uptoBulk d + uptoBulkAll r
def uptoBulkEntries {H : Type} : List (Lit × DataW H) → Nat
  | [] => 0
  | x :: r => uptoBulkEntry x + uptoBulkEntries r
def uptoBulkEntry {H : Type} : Lit × DataW H → Nat
  | (.string bytes, d) => bytes.length + uptoBulk d + 1
  | (_, d) => uptoBulk d + 1
 end
def uptoSmall : (H : Type) → List (DataW H) → Bool := fun _ ds => decide (uptoBulkAll ds ≤ 1048576)
def OpenSpec.upto (s : _root_.Go.ChangeSpec) : _root_.Go.OpenSpec := { _root_.Go.OpenSpec.ofChange s with cond := some uptoSmall }

/-- 'areopaguslaw02.RootTells', WHERE WHAT IT READS IS OF BULK AT MOST 1048576: true; the input reads as it did. -/
def rootTellsUptoRow : OpenClaim := { program := "ytamibbcdklpncaa", sum := "2db4ddf791f68e9f171e58900e7161de68105c96cd7235b90ca55884082f8cfc", func := "areopagus/areopaguslaw02.RootTells", spec := "rootTells", inPlace := ["internal/abi.NoEscape", "internal/bytealg.IndexByteString", "internal/bytealg.IndexString"], unfollowed := true, recurses := true, named := ["internal/bytealg.MaxLen"], plainKeys := false, apart := false, narrowed := true }
def RootTellsUptoSaid : Prop := rootTellsUptoRow.holds Try.pinned (OpenSpec.upto rootTellsSpec)

/-- 'areopaguslaw02.RootBack', WHERE WHAT IT READS IS OF BULK AT MOST 1048576: true; the input reads as it did. -/
def rootBackUptoRow : OpenClaim := { program := "ytamibbcdklpncaa", sum := "2db4ddf791f68e9f171e58900e7161de68105c96cd7235b90ca55884082f8cfc", func := "areopagus/areopaguslaw02.RootBack", spec := "rootBack", inPlace := ["internal/abi.NoEscape", "internal/bytealg.IndexByteString", "internal/bytealg.IndexString"], unfollowed := true, recurses := true, named := ["internal/bytealg.MaxLen"], plainKeys := false, apart := false, narrowed := true }
def RootBackUptoSaid : Prop := rootBackUptoRow.holds Try.pinned (OpenSpec.upto rootBackSpec)

/-- 'areopaguslaw02.RootOrder', WHERE WHAT IT READS IS OF BULK AT MOST 1048576: true; the input reads as it did. -/
def rootOrderUptoRow : OpenClaim := { program := "ytamibbcdklpncaa", sum := "2db4ddf791f68e9f171e58900e7161de68105c96cd7235b90ca55884082f8cfc", func := "areopagus/areopaguslaw02.RootOrder", spec := "rootOrder", inPlace := ["internal/abi.NoEscape", "internal/bytealg.IndexByteString", "internal/bytealg.IndexString"], unfollowed := true, recurses := true, named := ["internal/bytealg.MaxLen"], plainKeys := false, apart := false, narrowed := true }
def RootOrderUptoSaid : Prop := rootOrderUptoRow.holds Try.pinned (OpenSpec.upto rootOrderSpec)

/-- 'areopaguslaw02.RootSorts', WHERE WHAT IT READS IS OF BULK AT MOST 1048576: true; the input reads as it did. -/
def rootSortsUptoRow : OpenClaim := { program := "ytamibbcdklpncaa", sum := "2db4ddf791f68e9f171e58900e7161de68105c96cd7235b90ca55884082f8cfc", func := "areopagus/areopaguslaw02.RootSorts", spec := "rootSorts", inPlace := ["internal/abi.NoEscape", "internal/bytealg.IndexByteString", "internal/bytealg.IndexString"], unfollowed := true, recurses := true, named := ["internal/bytealg.MaxLen"], plainKeys := false, apart := false, narrowed := true }
def RootSortsUptoSaid : Prop := rootSortsUptoRow.holds Try.pinned (OpenSpec.upto rootSortsSpec)

/-- 'areopaguslaw02.RootUnion', WHERE WHAT IT READS IS OF BULK AT MOST 1048576: true; the input reads as it did. -/
def rootUnionUptoRow : OpenClaim := { program := "ytamibbcdklpncaa", sum := "2db4ddf791f68e9f171e58900e7161de68105c96cd7235b90ca55884082f8cfc", func := "areopagus/areopaguslaw02.RootUnion", spec := "rootUnion", inPlace := ["internal/abi.NoEscape", "internal/bytealg.IndexByteString", "internal/bytealg.IndexString"], unfollowed := true, recurses := true, named := ["internal/bytealg.MaxLen"], plainKeys := false, apart := false, narrowed := true }
def RootUnionUptoSaid : Prop := rootUnionUptoRow.holds Try.pinned (OpenSpec.upto rootUnionSpec)

/-- 'areopaguslaw02.RootDigits', WHERE WHAT IT READS IS OF BULK AT MOST 1048576: true; the input reads as it did. -/
def rootDigitsUptoRow : OpenClaim := { program := "ytamibbcdklpncaa", sum := "2db4ddf791f68e9f171e58900e7161de68105c96cd7235b90ca55884082f8cfc", func := "areopagus/areopaguslaw02.RootDigits", spec := "rootDigits", inPlace := ["internal/abi.NoEscape", "internal/bytealg.IndexByteString", "internal/bytealg.IndexString"], unfollowed := true, recurses := true, named := ["internal/bytealg.MaxLen"], plainKeys := false, apart := false, narrowed := true }
def RootDigitsUptoSaid : Prop := rootDigitsUptoRow.holds Try.pinned (OpenSpec.upto rootDigitsSpec)

end Rows
end Go.Proofs.Ytamibbcdklpncaa
