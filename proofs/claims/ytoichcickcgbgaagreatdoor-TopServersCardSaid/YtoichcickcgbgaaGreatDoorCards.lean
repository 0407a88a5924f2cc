/-
  DERIVED. GIVEN WITH THE SEED: THE CARDS: each row of YtoichcickcgbgaaGreatDoorRows.lean that lists a variable, with what it lists TIED to the program's text (the seventh form; the later family's looks); each row that meets fmt, with fmt's text TOLD by the authors' own Lean function (tested against real Go, not proved from fmt's source: count such statements apart). THE CARD IS WHAT COUNTS. Prove the row's statement (the work); the ties are given (YtoichcickcgbgaaGreatDoorTie.lean); close each card by the builder's one call (the guide's Derived/Test/ToyasCard.lean, 'card_holds'). Laid BY PROGRAM, IN A SANDBOX (cutbox-door.mjs). By AI agents, Wed Nov 11 2026. No macro, syntax, notation, axiom, sorry.
-/
import Derived.Test.YtoichcickcgbgaaGreatDoorRows
import GoSem.ClaimSeven
namespace Go.Proofs.YtoichcickcgbgaaGreatDoor
namespace Rows

/-- THE TIED CARD OF 'horariumtop.TopServers'. -/
def topServersCard : Claim7 := { stood := { row := topServersRow, standIns := [], harness := (true, "cdc6802fbaae6ee098edb7346e596693a794de033e7349374dc41c2c1b404505"), looks := true }, kinds := [], alts := [], laidByText := true, laidKinds := [.data, .pinned], laidTests := true, laidLooks := .later }
def TopServersCardSaid : Prop := Claim7.holds Tryz.pinned (.plain (OpenSpec.ofChange topServersSpec)) topServersCard

/-- THE SECOND FORM's CARD OF 'horariumtop.TopServers'. -/
def topServersUptoCard : Claim7 := { stood := { row := topServersUptoRow, standIns := [], harness := (true, "cdc6802fbaae6ee098edb7346e596693a794de033e7349374dc41c2c1b404505"), looks := true }, kinds := [], alts := [], laidByText := true, laidKinds := [.data, .pinned], laidTests := true, laidLooks := .later }
def TopServersUptoCardSaid : Prop := Claim7.holds Tryz.pinned (.plain (OpenSpec.upto topServersSpec)) topServersUptoCard
end Rows
end Go.Proofs.YtoichcickcgbgaaGreatDoor
