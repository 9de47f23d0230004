/-
  DERIVED. GIVEN WITH THE SEED: THE CARDS: each row of YtchfaiogiamfbaaDoorRows.lean that lists a variable, with what it lists TIED to the program's text (the seventh form; the later family's looks); each row that meets fmt, with fmt's text TOLD by the authors' own Lean function (tested against real Go, not proved from fmt's source: count such statements apart). THE CARD IS WHAT COUNTS. Prove the row's statement (the work); the ties are given (YtchfaiogiamfbaaDoorTie.lean); close each card by the builder's one call (the guide's Derived/Test/ToyasCard.lean, 'card_holds'). Laid BY PROGRAM, IN A SANDBOX (cutbox-door.mjs). By AI agents, Wed Nov 11 2026. No macro, syntax, notation, axiom, sorry.
-/
import Derived.Test.YtchfaiogiamfbaaDoorRows
import GoSem.ClaimSeven
namespace Go.Proofs.YtchfaiogiamfbaaDoor
namespace Rows

/-- THE TIED CARD OF 'areopaguslaw11.StakeTells'. -/
def stakeTellsCard : Claim7 := { stood := { row := stakeTellsRow, standIns := [], harness := (true, "2e8914ec4df9db8f43bd1961ddc303f14fdcf83df4597516e70119eebfa5c68b"), looks := false }, kinds := [], alts := [], laidByText := true, laidKinds := [.data], laidTests := true, laidLooks := .later }
def StakeTellsCardSaid : Prop := Claim7.holds Tryd.pinned (.plain (OpenSpec.ofChange stakeTellsSpec)) stakeTellsCard

/-- THE TIED CARD OF 'areopaguslaw11.StakeCommon'. -/
def stakeCommonCard : Claim7 := { stood := { row := stakeCommonRow, standIns := [], harness := (true, "2e8914ec4df9db8f43bd1961ddc303f14fdcf83df4597516e70119eebfa5c68b"), looks := false }, kinds := [], alts := [], laidByText := true, laidKinds := [.data], laidTests := true, laidLooks := .later }
def StakeCommonCardSaid : Prop := Claim7.holds Tryd.pinned (.plain (OpenSpec.ofChange stakeCommonSpec)) stakeCommonCard

/-- THE TIED CARD OF 'areopaguslaw11.StakeParts'. -/
def stakePartsCard : Claim7 := { stood := { row := stakePartsRow, standIns := [], harness := (true, "2e8914ec4df9db8f43bd1961ddc303f14fdcf83df4597516e70119eebfa5c68b"), looks := false }, kinds := [], alts := [], laidByText := true, laidKinds := [.data], laidTests := true, laidLooks := .later }
def StakePartsCardSaid : Prop := Claim7.holds Tryd.pinned (.plain (OpenSpec.ofChange stakePartsSpec)) stakePartsCard

/-- THE TIED CARD OF 'areopaguslaw11.StakeMore'. -/
def stakeMoreCard : Claim7 := { stood := { row := stakeMoreRow, standIns := [], harness := (true, "2e8914ec4df9db8f43bd1961ddc303f14fdcf83df4597516e70119eebfa5c68b"), looks := false }, kinds := [], alts := [], laidByText := true, laidKinds := [.data], laidTests := true, laidLooks := .later }
def StakeMoreCardSaid : Prop := Claim7.holds Tryd.pinned (.plain (OpenSpec.ofChange stakeMoreSpec)) stakeMoreCard

/-- THE TIED CARD OF 'areopaguslaw11.StakeSums'. -/
def stakeSumsCard : Claim7 := { stood := { row := stakeSumsRow, standIns := [], harness := (true, "2e8914ec4df9db8f43bd1961ddc303f14fdcf83df4597516e70119eebfa5c68b"), looks := false }, kinds := [], alts := [], laidByText := true, laidKinds := [.data], laidTests := true, laidLooks := .later }
def StakeSumsCardSaid : Prop := Claim7.holds Tryd.pinned (.plain (OpenSpec.ofChange stakeSumsSpec)) stakeSumsCard

/-- THE TIED CARD OF 'areopaguslaw11.StakeNone'. -/
def stakeNoneCard : Claim7 := { stood := { row := stakeNoneRow, standIns := [], harness := (true, "2e8914ec4df9db8f43bd1961ddc303f14fdcf83df4597516e70119eebfa5c68b"), looks := false }, kinds := [], alts := [], laidByText := true, laidKinds := [.data], laidTests := true, laidLooks := .later }
def StakeNoneCardSaid : Prop := Claim7.holds Tryd.pinned (.plain (OpenSpec.ofChange stakeNoneSpec)) stakeNoneCard

/-- THE SECOND FORM's CARD OF 'areopaguslaw11.StakeTells'. -/
def stakeTellsUptoCard : Claim7 := { stood := { row := stakeTellsUptoRow, standIns := [], harness := (true, "2e8914ec4df9db8f43bd1961ddc303f14fdcf83df4597516e70119eebfa5c68b"), looks := false }, kinds := [], alts := [], laidByText := true, laidKinds := [.data], laidTests := true, laidLooks := .later }
def StakeTellsUptoCardSaid : Prop := Claim7.holds Tryd.pinned (.plain (OpenSpec.upto stakeTellsSpec)) stakeTellsUptoCard

/-- THE SECOND FORM's CARD OF 'areopaguslaw11.StakeCommon'. -/
def stakeCommonUptoCard : Claim7 := { stood := { row := stakeCommonUptoRow, standIns := [], harness := (true, "2e8914ec4df9db8f43bd1961ddc303f14fdcf83df4597516e70119eebfa5c68b"), looks := false }, kinds := [], alts := [], laidByText := true, laidKinds := [.data], laidTests := true, laidLooks := .later }
def StakeCommonUptoCardSaid : Prop := Claim7.holds Tryd.pinned (.plain (OpenSpec.upto stakeCommonSpec)) stakeCommonUptoCard

/-- THE SECOND FORM's CARD OF 'areopaguslaw11.StakeParts'. -/
def stakePartsUptoCard : Claim7 := { stood := { row := stakePartsUptoRow, standIns := [], harness := (true, "2e8914ec4df9db8f43bd1961ddc303f14fdcf83df4597516e70119eebfa5c68b"), looks := false }, kinds := [], alts := [], laidByText := true, laidKinds := [.data], laidTests := true, laidLooks := .later }
def StakePartsUptoCardSaid : Prop := Claim7.holds Tryd.pinned (.plain (OpenSpec.upto stakePartsSpec)) stakePartsUptoCard

/-- THE SECOND FORM's CARD OF 'areopaguslaw11.StakeMore'. -/
def stakeMoreUptoCard : Claim7 := { stood := { row := stakeMoreUptoRow, standIns := [], harness := (true, "2e8914ec4df9db8f43bd1961ddc303f14fdcf83df4597516e70119eebfa5c68b"), looks := false }, kinds := [], alts := [], laidByText := true, laidKinds := [.data], laidTests := true, laidLooks := .later }
def StakeMoreUptoCardSaid : Prop := Claim7.holds Tryd.pinned (.plain (OpenSpec.upto stakeMoreSpec)) stakeMoreUptoCard

/-- THE SECOND FORM's CARD OF 'areopaguslaw11.StakeSums'. -/
def stakeSumsUptoCard : Claim7 := { stood := { row := stakeSumsUptoRow, standIns := [], harness := (true, "2e8914ec4df9db8f43bd1961ddc303f14fdcf83df4597516e70119eebfa5c68b"), looks := false }, kinds := [], alts := [], laidByText := true, laidKinds := [.data], laidTests := true, laidLooks := .later }
def StakeSumsUptoCardSaid : Prop := Claim7.holds Tryd.pinned (.plain (OpenSpec.upto stakeSumsSpec)) stakeSumsUptoCard

/-- THE SECOND FORM's CARD OF 'areopaguslaw11.StakeNone'. -/
def stakeNoneUptoCard : Claim7 := { stood := { row := stakeNoneUptoRow, standIns := [], harness := (true, "2e8914ec4df9db8f43bd1961ddc303f14fdcf83df4597516e70119eebfa5c68b"), looks := false }, kinds := [], alts := [], laidByText := true, laidKinds := [.data], laidTests := true, laidLooks := .later }
def StakeNoneUptoCardSaid : Prop := Claim7.holds Tryd.pinned (.plain (OpenSpec.upto stakeNoneSpec)) stakeNoneUptoCard
end Rows
end Go.Proofs.YtchfaiogiamfbaaDoor
