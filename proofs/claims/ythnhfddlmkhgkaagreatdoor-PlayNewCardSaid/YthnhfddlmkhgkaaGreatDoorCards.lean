/-
  DERIVED. GIVEN WITH THE SEED: THE CARDS: each row of YthnhfddlmkhgkaaGreatDoorRows.lean that lists a variable, with what it lists TIED to the program's text (the seventh form; the later family's looks); each row that meets fmt, with fmt's text TOLD by the authors' own Lean function (tested against real Go, not proved from fmt's source: count such statements apart). THE CARD IS WHAT COUNTS. Prove the row's statement (the work); the ties are given (YthnhfddlmkhgkaaGreatDoorTie.lean); close each card by the builder's one call (the guide's Derived/Test/ToyasCard.lean, 'card_holds'). Laid BY PROGRAM, IN A SANDBOX (cutbox-door.mjs). By AI agents, Wed Nov 11 2026. No macro, syntax, notation, axiom, sorry.
-/
import Derived.Test.YthnhfddlmkhgkaaGreatDoorRows
import GoSem.ClaimSeven
namespace Go.Proofs.YthnhfddlmkhgkaaGreatDoor
namespace Rows

/-- THE TIED CARD OF 'annexlaw21.PlayParses'. -/
def playParsesCard : Claim7 := { stood := { row := playParsesRow, standIns := [], harness := (true, "010e87540ae17fc2136531a9da9b3667d1615e3a7e00e0a44c6d932a3d5f0ce8"), looks := true }, kinds := [], alts := [], laidByText := true, laidKinds := [.data, .data, .data, .data, .sentinel, .sentinel, .data, .data, .data, .data, .data, .data, .pinned], laidTests := true, laidLooks := .later }
def PlayParsesCardSaid : Prop := Claim7.holds Tryz.pinned (.plain (OpenSpec.ofChange playParsesSpec)) playParsesCard

/-- THE TIED CARD OF 'annexlaw21.PlayPrints'. -/
def playPrintsCard : Claim7 := { stood := { row := playPrintsRow, standIns := [], harness := (true, "010e87540ae17fc2136531a9da9b3667d1615e3a7e00e0a44c6d932a3d5f0ce8"), looks := true }, kinds := [], alts := [], laidByText := true, laidKinds := [.data, .data, .data, .data, .sentinel, .sentinel, .data, .data, .data, .data, .data, .data, .pinned], laidTests := true, laidLooks := .later }
def PlayPrintsCardSaid : Prop := Claim7.holds Tryz.pinned (.plain (OpenSpec.ofChange playPrintsSpec)) playPrintsCard

/-- THE TIED CARD OF 'annexlaw21.PlayRound'. -/
def playRoundCard : Claim7 := { stood := { row := playRoundRow, standIns := [], harness := (true, "010e87540ae17fc2136531a9da9b3667d1615e3a7e00e0a44c6d932a3d5f0ce8"), looks := true }, kinds := [], alts := [], laidByText := true, laidKinds := [.data, .data, .data, .data, .sentinel, .sentinel, .data, .data, .pinned], laidTests := true, laidLooks := .later }
def PlayRoundCardSaid : Prop := Claim7.holds Tryz.pinned (.plain (OpenSpec.ofChange playRoundSpec)) playRoundCard

/-- THE TIED CARD OF 'annexlaw21.PlayCanon'. -/
def playCanonCard : Claim7 := { stood := { row := playCanonRow, standIns := [], harness := (true, "010e87540ae17fc2136531a9da9b3667d1615e3a7e00e0a44c6d932a3d5f0ce8"), looks := true }, kinds := [], alts := [], laidByText := true, laidKinds := [.data, .data, .data, .data, .sentinel, .sentinel, .data, .data, .pinned], laidTests := true, laidLooks := .later }
def PlayCanonCardSaid : Prop := Claim7.holds Tryz.pinned (.plain (OpenSpec.ofChange playCanonSpec)) playCanonCard

/-- THE TIED CARD OF 'annexlaw21.PlayNoise'. -/
def playNoiseCard : Claim7 := { stood := { row := playNoiseRow, standIns := [], harness := (true, "010e87540ae17fc2136531a9da9b3667d1615e3a7e00e0a44c6d932a3d5f0ce8"), looks := true }, kinds := [], alts := [], laidByText := true, laidKinds := [.data, .data, .data, .data, .sentinel, .sentinel, .data, .data, .pinned], laidTests := true, laidLooks := .later }
def PlayNoiseCardSaid : Prop := Claim7.holds Tryz.pinned (.plain (OpenSpec.ofChange playNoiseSpec)) playNoiseCard

/-- THE TIED CARD OF 'annexlaw21.PlayFirst'. -/
def playFirstCard : Claim7 := { stood := { row := playFirstRow, standIns := [], harness := (true, "010e87540ae17fc2136531a9da9b3667d1615e3a7e00e0a44c6d932a3d5f0ce8"), looks := true }, kinds := [], alts := [], laidByText := true, laidKinds := [.data, .data, .data, .data, .sentinel, .sentinel, .data, .data, .pinned], laidTests := true, laidLooks := .later }
def PlayFirstCardSaid : Prop := Claim7.holds Tryz.pinned (.plain (OpenSpec.ofChange playFirstSpec)) playFirstCard

/-- THE TIED CARD OF 'annexlaw21.PlayWritesCall'. -/
def playWritesCallCard : Claim7 := { stood := { row := playWritesCallRow, standIns := [], harness := (true, "010e87540ae17fc2136531a9da9b3667d1615e3a7e00e0a44c6d932a3d5f0ce8"), looks := true }, kinds := [], alts := [], laidByText := true, laidKinds := [.data, .data, .data, .data, .sentinel, .sentinel, .data, .data, .data, .data, .pinned], laidTests := true, laidLooks := .later }
def PlayWritesCallCardSaid : Prop := Claim7.holds Tryz.pinned (.plain (OpenSpec.ofChange playWritesCallSpec)) playWritesCallCard

/-- THE TIED CARD OF 'annexlaw21.PlayReadsCall'. -/
def playReadsCallCard : Claim7 := { stood := { row := playReadsCallRow, standIns := [], harness := (true, "010e87540ae17fc2136531a9da9b3667d1615e3a7e00e0a44c6d932a3d5f0ce8"), looks := true }, kinds := [], alts := [], laidByText := true, laidKinds := [.data, .data, .data, .data, .sentinel, .sentinel, .data, .data, .data, .data, .pinned], laidTests := true, laidLooks := .later }
def PlayReadsCallCardSaid : Prop := Claim7.holds Tryz.pinned (.plain (OpenSpec.ofChange playReadsCallSpec)) playReadsCallCard

/-- THE TIED CARD OF 'annexlaw21.PlayNew'. -/
def playNewCard : Claim7 := { stood := { row := playNewRow, standIns := [], harness := (true, "010e87540ae17fc2136531a9da9b3667d1615e3a7e00e0a44c6d932a3d5f0ce8"), looks := true }, kinds := [], alts := [], laidByText := true, laidKinds := [.data, .data, .data, .data, .sentinel, .sentinel, .data, .data, .pinned], laidTests := true, laidLooks := .later }
def PlayNewCardSaid : Prop := Claim7.holds Tryz.pinned (.plain (OpenSpec.ofChange playNewSpec)) playNewCard

/-- THE TIED CARD OF 'annexlaw21.PlayCalls'. -/
def playCallsCard : Claim7 := { stood := { row := playCallsRow, standIns := [], harness := (true, "010e87540ae17fc2136531a9da9b3667d1615e3a7e00e0a44c6d932a3d5f0ce8"), looks := true }, kinds := [], alts := [], laidByText := true, laidKinds := [.data, .data, .data, .data, .sentinel, .sentinel, .data, .data, .pinned], laidTests := true, laidLooks := .later }
def PlayCallsCardSaid : Prop := Claim7.holds Tryz.pinned (.plain (OpenSpec.ofChange playCallsSpec)) playCallsCard

/-- THE TIED CARD OF 'annexlaw21.PlayPlace'. -/
def playPlaceCard : Claim7 := { stood := { row := playPlaceRow, standIns := [], harness := (true, "010e87540ae17fc2136531a9da9b3667d1615e3a7e00e0a44c6d932a3d5f0ce8"), looks := true }, kinds := [], alts := [], laidByText := true, laidKinds := [.data, .data, .data, .data, .sentinel, .sentinel, .data, .data, .pinned], laidTests := true, laidLooks := .later }
def PlayPlaceCardSaid : Prop := Claim7.holds Tryz.pinned (.plain (OpenSpec.ofChange playPlaceSpec)) playPlaceCard

/-- THE SECOND FORM's CARD OF 'annexlaw21.PlayParses'. -/
def playParsesUptoCard : Claim7 := { stood := { row := playParsesUptoRow, standIns := [], harness := (true, "010e87540ae17fc2136531a9da9b3667d1615e3a7e00e0a44c6d932a3d5f0ce8"), looks := true }, kinds := [], alts := [], laidByText := true, laidKinds := [.data, .data, .data, .data, .sentinel, .sentinel, .data, .data, .data, .data, .data, .data, .pinned], laidTests := true, laidLooks := .later }
def PlayParsesUptoCardSaid : Prop := Claim7.holds Tryz.pinned (.plain (OpenSpec.upto playParsesSpec)) playParsesUptoCard

/-- THE SECOND FORM's CARD OF 'annexlaw21.PlayPrints'. -/
def playPrintsUptoCard : Claim7 := { stood := { row := playPrintsUptoRow, standIns := [], harness := (true, "010e87540ae17fc2136531a9da9b3667d1615e3a7e00e0a44c6d932a3d5f0ce8"), looks := true }, kinds := [], alts := [], laidByText := true, laidKinds := [.data, .data, .data, .data, .sentinel, .sentinel, .data, .data, .data, .data, .data, .data, .pinned], laidTests := true, laidLooks := .later }
def PlayPrintsUptoCardSaid : Prop := Claim7.holds Tryz.pinned (.plain (OpenSpec.upto playPrintsSpec)) playPrintsUptoCard

/-- THE SECOND FORM's CARD OF 'annexlaw21.PlayRound'. -/
def playRoundUptoCard : Claim7 := { stood := { row := playRoundUptoRow, standIns := [], harness := (true, "010e87540ae17fc2136531a9da9b3667d1615e3a7e00e0a44c6d932a3d5f0ce8"), looks := true }, kinds := [], alts := [], laidByText := true, laidKinds := [.data, .data, .data, .data, .sentinel, .sentinel, .data, .data, .pinned], laidTests := true, laidLooks := .later }
def PlayRoundUptoCardSaid : Prop := Claim7.holds Tryz.pinned (.plain (OpenSpec.upto playRoundSpec)) playRoundUptoCard

/-- THE SECOND FORM's CARD OF 'annexlaw21.PlayCanon'. -/
def playCanonUptoCard : Claim7 := { stood := { row := playCanonUptoRow, standIns := [], harness := (true, "010e87540ae17fc2136531a9da9b3667d1615e3a7e00e0a44c6d932a3d5f0ce8"), looks := true }, kinds := [], alts := [], laidByText := true, laidKinds := [.data, .data, .data, .data, .sentinel, .sentinel, .data, .data, .pinned], laidTests := true, laidLooks := .later }
def PlayCanonUptoCardSaid : Prop := Claim7.holds Tryz.pinned (.plain (OpenSpec.upto playCanonSpec)) playCanonUptoCard

/-- THE SECOND FORM's CARD OF 'annexlaw21.PlayNoise'. -/
def playNoiseUptoCard : Claim7 := { stood := { row := playNoiseUptoRow, standIns := [], harness := (true, "010e87540ae17fc2136531a9da9b3667d1615e3a7e00e0a44c6d932a3d5f0ce8"), looks := true }, kinds := [], alts := [], laidByText := true, laidKinds := [.data, .data, .data, .data, .sentinel, .sentinel, .data, .data, .pinned], laidTests := true, laidLooks := .later }
def PlayNoiseUptoCardSaid : Prop := Claim7.holds Tryz.pinned (.plain (OpenSpec.upto playNoiseSpec)) playNoiseUptoCard

/-- THE SECOND FORM's CARD OF 'annexlaw21.PlayFirst'. -/
def playFirstUptoCard : Claim7 := { stood := { row := playFirstUptoRow, standIns := [], harness := (true, "010e87540ae17fc2136531a9da9b3667d1615e3a7e00e0a44c6d932a3d5f0ce8"), looks := true }, kinds := [], alts := [], laidByText := true, laidKinds := [.data, .data, .data, .data, .sentinel, .sentinel, .data, .data, .pinned], laidTests := true, laidLooks := .later }
def PlayFirstUptoCardSaid : Prop := Claim7.holds Tryz.pinned (.plain (OpenSpec.upto playFirstSpec)) playFirstUptoCard

/-- THE SECOND FORM's CARD OF 'annexlaw21.PlayWritesCall'. -/
def playWritesCallUptoCard : Claim7 := { stood := { row := playWritesCallUptoRow, standIns := [], harness := (true, "010e87540ae17fc2136531a9da9b3667d1615e3a7e00e0a44c6d932a3d5f0ce8"), looks := true }, kinds := [], alts := [], laidByText := true, laidKinds := [.data, .data, .data, .data, .sentinel, .sentinel, .data, .data, .data, .data, .pinned], laidTests := true, laidLooks := .later }
def PlayWritesCallUptoCardSaid : Prop := Claim7.holds Tryz.pinned (.plain (OpenSpec.upto playWritesCallSpec)) playWritesCallUptoCard

/-- THE SECOND FORM's CARD OF 'annexlaw21.PlayReadsCall'. -/
def playReadsCallUptoCard : Claim7 := { stood := { row := playReadsCallUptoRow, standIns := [], harness := (true, "010e87540ae17fc2136531a9da9b3667d1615e3a7e00e0a44c6d932a3d5f0ce8"), looks := true }, kinds := [], alts := [], laidByText := true, laidKinds := [.data, .data, .data, .data, .sentinel, .sentinel, .data, .data, .data, .data, .pinned], laidTests := true, laidLooks := .later }
def PlayReadsCallUptoCardSaid : Prop := Claim7.holds Tryz.pinned (.plain (OpenSpec.upto playReadsCallSpec)) playReadsCallUptoCard

/-- THE SECOND FORM's CARD OF 'annexlaw21.PlayNew'. -/
def playNewUptoCard : Claim7 := { stood := { row := playNewUptoRow, standIns := [], harness := (true, "010e87540ae17fc2136531a9da9b3667d1615e3a7e00e0a44c6d932a3d5f0ce8"), looks := true }, kinds := [], alts := [], laidByText := true, laidKinds := [.data, .data, .data, .data, .sentinel, .sentinel, .data, .data, .pinned], laidTests := true, laidLooks := .later }
def PlayNewUptoCardSaid : Prop := Claim7.holds Tryz.pinned (.plain (OpenSpec.upto playNewSpec)) playNewUptoCard

/-- THE SECOND FORM's CARD OF 'annexlaw21.PlayCalls'. -/
def playCallsUptoCard : Claim7 := { stood := { row := playCallsUptoRow, standIns := [], harness := (true, "010e87540ae17fc2136531a9da9b3667d1615e3a7e00e0a44c6d932a3d5f0ce8"), looks := true }, kinds := [], alts := [], laidByText := true, laidKinds := [.data, .data, .data, .data, .sentinel, .sentinel, .data, .data, .pinned], laidTests := true, laidLooks := .later }
def PlayCallsUptoCardSaid : Prop := Claim7.holds Tryz.pinned (.plain (OpenSpec.upto playCallsSpec)) playCallsUptoCard

/-- THE SECOND FORM's CARD OF 'annexlaw21.PlayPlace'. -/
def playPlaceUptoCard : Claim7 := { stood := { row := playPlaceUptoRow, standIns := [], harness := (true, "010e87540ae17fc2136531a9da9b3667d1615e3a7e00e0a44c6d932a3d5f0ce8"), looks := true }, kinds := [], alts := [], laidByText := true, laidKinds := [.data, .data, .data, .data, .sentinel, .sentinel, .data, .data, .pinned], laidTests := true, laidLooks := .later }
def PlayPlaceUptoCardSaid : Prop := Claim7.holds Tryz.pinned (.plain (OpenSpec.upto playPlaceSpec)) playPlaceUptoCard
end Rows
end Go.Proofs.YthnhfddlmkhgkaaGreatDoor
