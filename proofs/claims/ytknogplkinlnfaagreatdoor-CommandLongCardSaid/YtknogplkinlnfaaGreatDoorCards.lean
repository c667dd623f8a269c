/-
  DERIVED. GIVEN WITH THE SEED: THE CARDS: each row of YtknogplkinlnfaaGreatDoorRows.lean that lists a variable, with what it lists TIED to the program's text (the seventh form; the later family's looks); each row that meets fmt, with fmt's text TOLD by the authors' own Lean function (tested against real Go, not proved from fmt's source: count such statements apart). THE CARD IS WHAT COUNTS. Prove the row's statement (the work); the ties are given (YtknogplkinlnfaaGreatDoorTie.lean); close each card by the builder's one call (the guide's Derived/Test/ToyasCard.lean, 'card_holds'). Laid BY PROGRAM, IN A SANDBOX (cutbox-door.mjs). By AI agents, Wed Nov 11 2026. No macro, syntax, notation, axiom, sorry.
-/
import Derived.Test.YtknogplkinlnfaaGreatDoorRows
import GoSem.ClaimSeven
namespace Go.Proofs.YtknogplkinlnfaaGreatDoor
namespace Rows

/-- THE TIED CARD OF 'pillarboxlaw17.CommandBack'. -/
def commandBackCard : Claim7 := { stood := { row := commandBackRow, standIns := [], harness := (true, "e2ddf53060f376e18b7dc5f497c43ea2f69b13662a7dd7fc22eb492cffc27a8a"), looks := false }, kinds := [], alts := [], laidByText := true, laidKinds := [.data, .data, .data, .data, .data, .pinned], laidTests := true, laidLooks := .later }
def CommandBackCardSaid : Prop := Claim7.holds Tryz.pinned (.plain (OpenSpec.ofChange commandBackSpec)) commandBackCard

/-- THE TIED CARD OF 'pillarboxlaw17.CommandLetters'. -/
def commandLettersCard : Claim7 := { stood := { row := commandLettersRow, standIns := [], harness := (true, "e2ddf53060f376e18b7dc5f497c43ea2f69b13662a7dd7fc22eb492cffc27a8a"), looks := false }, kinds := [], alts := [], laidByText := true, laidKinds := [.data, .data, .data, .data, .data, .pinned], laidTests := true, laidLooks := .later }
def CommandLettersCardSaid : Prop := Claim7.holds Tryz.pinned (.plain (OpenSpec.ofChange commandLettersSpec)) commandLettersCard

/-- THE TIED CARD OF 'pillarboxlaw17.CommandLong'. -/
def commandLongCard : Claim7 := { stood := { row := commandLongRow, standIns := [], harness := (true, "e2ddf53060f376e18b7dc5f497c43ea2f69b13662a7dd7fc22eb492cffc27a8a"), looks := false }, kinds := [], alts := [], laidByText := true, laidKinds := [.data, .data, .data, .data, .data, .pinned], laidTests := true, laidLooks := .later }
def CommandLongCardSaid : Prop := Claim7.holds Tryz.pinned (.plain (OpenSpec.ofChange commandLongSpec)) commandLongCard

/-- THE SECOND FORM's CARD OF 'pillarboxlaw17.CommandBack'. -/
def commandBackUptoCard : Claim7 := { stood := { row := commandBackUptoRow, standIns := [], harness := (true, "e2ddf53060f376e18b7dc5f497c43ea2f69b13662a7dd7fc22eb492cffc27a8a"), looks := false }, kinds := [], alts := [], laidByText := true, laidKinds := [.data, .data, .data, .data, .data, .pinned], laidTests := true, laidLooks := .later }
def CommandBackUptoCardSaid : Prop := Claim7.holds Tryz.pinned (.plain (OpenSpec.upto commandBackSpec)) commandBackUptoCard

/-- THE SECOND FORM's CARD OF 'pillarboxlaw17.CommandLetters'. -/
def commandLettersUptoCard : Claim7 := { stood := { row := commandLettersUptoRow, standIns := [], harness := (true, "e2ddf53060f376e18b7dc5f497c43ea2f69b13662a7dd7fc22eb492cffc27a8a"), looks := false }, kinds := [], alts := [], laidByText := true, laidKinds := [.data, .data, .data, .data, .data, .pinned], laidTests := true, laidLooks := .later }
def CommandLettersUptoCardSaid : Prop := Claim7.holds Tryz.pinned (.plain (OpenSpec.upto commandLettersSpec)) commandLettersUptoCard

/-- THE SECOND FORM's CARD OF 'pillarboxlaw17.CommandLong'. -/
def commandLongUptoCard : Claim7 := { stood := { row := commandLongUptoRow, standIns := [], harness := (true, "e2ddf53060f376e18b7dc5f497c43ea2f69b13662a7dd7fc22eb492cffc27a8a"), looks := false }, kinds := [], alts := [], laidByText := true, laidKinds := [.data, .data, .data, .data, .data, .pinned], laidTests := true, laidLooks := .later }
def CommandLongUptoCardSaid : Prop := Claim7.holds Tryz.pinned (.plain (OpenSpec.upto commandLongSpec)) commandLongUptoCard
end Rows
end Go.Proofs.YtknogplkinlnfaaGreatDoor
