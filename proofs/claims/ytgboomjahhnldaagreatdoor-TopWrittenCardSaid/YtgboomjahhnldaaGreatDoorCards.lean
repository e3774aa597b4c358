/-
  DERIVED. GIVEN WITH THE SEED: THE CARDS: each row of YtgboomjahhnldaaGreatDoorRows.lean that lists a variable, with what it lists TIED to the program's text (the seventh form; the later family's looks); each row that meets fmt, with fmt's text TOLD by the authors' own Lean function (tested against real Go, not proved from fmt's source: count such statements apart). THE CARD IS WHAT COUNTS. Prove the row's statement (the work); the ties are given (YtgboomjahhnldaaGreatDoorTie.lean); close each card by the builder's one call (the guide's Derived/Test/ToyasCard.lean, 'card_holds'). Laid BY PROGRAM, IN A SANDBOX (cutbox-door.mjs). By AI agents, Wed Nov 11 2026. No macro, syntax, notation, axiom, sorry.
-/
import Derived.Test.YtgboomjahhnldaaGreatDoorRows
import GoSem.ClaimSeven
namespace Go.Proofs.YtgboomjahhnldaaGreatDoor
namespace Rows

/-- THE TIED CARD OF 'pandecttop.TopWritten'. -/
def topWrittenCard : Claim7 := { stood := { row := topWrittenRow, standIns := [], harness := (true, "a49114e2ff02b341af3f0a4bd9a57e34a98df6ed61498fb824429e8792ec3307"), looks := false }, kinds := [], alts := [], laidByText := true, laidKinds := [.data, .data, .widerDeep, .funcs, .pinned], laidTests := true, laidLooks := .later }
def TopWrittenCardSaid : Prop := Claim7.holds Tryz.pinned (.plain (OpenSpec.ofChange topWrittenSpec)) topWrittenCard

/-- THE SECOND FORM's CARD OF 'pandecttop.TopWritten'. -/
def topWrittenUptoCard : Claim7 := { stood := { row := topWrittenUptoRow, standIns := [], harness := (true, "a49114e2ff02b341af3f0a4bd9a57e34a98df6ed61498fb824429e8792ec3307"), looks := false }, kinds := [], alts := [], laidByText := true, laidKinds := [.data, .data, .widerDeep, .funcs, .pinned], laidTests := true, laidLooks := .later }
def TopWrittenUptoCardSaid : Prop := Claim7.holds Tryz.pinned (.plain (OpenSpec.upto topWrittenSpec)) topWrittenUptoCard
end Rows
end Go.Proofs.YtgboomjahhnldaaGreatDoor
