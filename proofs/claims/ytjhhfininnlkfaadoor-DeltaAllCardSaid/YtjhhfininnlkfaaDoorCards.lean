/-
  DERIVED. GIVEN WITH THE SEED: THE CARDS: each row of YtjhhfininnlkfaaDoorRows.lean that lists a variable, with what it lists TIED to the program's text (the seventh form; the later family's looks); each row that meets fmt, with fmt's text TOLD by the authors' own Lean function (tested against real Go, not proved from fmt's source: count such statements apart). THE CARD IS WHAT COUNTS. Prove the row's statement (the work); the ties are given (YtjhhfininnlkfaaDoorTie.lean); close each card by the builder's one call (the guide's Derived/Test/ToyasCard.lean, 'card_holds'). Laid BY PROGRAM, IN A SANDBOX (cutbox-door.mjs). By AI agents, Wed Nov 11 2026. No macro, syntax, notation, axiom, sorry.
-/
import Derived.Test.YtjhhfininnlkfaaDoorRows
import GoSem.ClaimSeven
namespace Go.Proofs.YtjhhfininnlkfaaDoor
namespace Rows

/-- THE TIED CARD OF 'areopaguslaw14.DeltaAll'. -/
def deltaAllCard : Claim7 := { stood := { row := deltaAllRow, standIns := [], harness := (true, "4a1d956729ce6a927b57a8af3c7490b603ac5274912ef5a587fb6f87650093b6"), looks := false }, kinds := [], alts := [], laidByText := true, laidKinds := [.data], laidTests := true, laidLooks := .later }
def DeltaAllCardSaid : Prop := Claim7.holds Tryd.pinned (.plain (OpenSpec.ofChange deltaAllSpec)) deltaAllCard

/-- THE TIED CARD OF 'areopaguslaw14.DeltaBound'. -/
def deltaBoundCard : Claim7 := { stood := { row := deltaBoundRow, standIns := [], harness := (true, "4a1d956729ce6a927b57a8af3c7490b603ac5274912ef5a587fb6f87650093b6"), looks := false }, kinds := [], alts := [], laidByText := true, laidKinds := [.data], laidTests := true, laidLooks := .later }
def DeltaBoundCardSaid : Prop := Claim7.holds Tryd.pinned (.plain (OpenSpec.ofChange deltaBoundSpec)) deltaBoundCard

/-- THE SECOND FORM's CARD OF 'areopaguslaw14.DeltaAll'. -/
def deltaAllUptoCard : Claim7 := { stood := { row := deltaAllUptoRow, standIns := [], harness := (true, "4a1d956729ce6a927b57a8af3c7490b603ac5274912ef5a587fb6f87650093b6"), looks := false }, kinds := [], alts := [], laidByText := true, laidKinds := [.data], laidTests := true, laidLooks := .later }
def DeltaAllUptoCardSaid : Prop := Claim7.holds Tryd.pinned (.plain (OpenSpec.upto deltaAllSpec)) deltaAllUptoCard

/-- THE SECOND FORM's CARD OF 'areopaguslaw14.DeltaBound'. -/
def deltaBoundUptoCard : Claim7 := { stood := { row := deltaBoundUptoRow, standIns := [], harness := (true, "4a1d956729ce6a927b57a8af3c7490b603ac5274912ef5a587fb6f87650093b6"), looks := false }, kinds := [], alts := [], laidByText := true, laidKinds := [.data], laidTests := true, laidLooks := .later }
def DeltaBoundUptoCardSaid : Prop := Claim7.holds Tryd.pinned (.plain (OpenSpec.upto deltaBoundSpec)) deltaBoundUptoCard
end Rows
end Go.Proofs.YtjhhfininnlkfaaDoor
