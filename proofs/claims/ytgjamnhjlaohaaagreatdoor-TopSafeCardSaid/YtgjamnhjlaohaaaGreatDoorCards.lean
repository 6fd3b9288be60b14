/-
  DERIVED. GIVEN WITH THE SEED: THE CARDS: each row of YtgjamnhjlaohaaaGreatDoorRows.lean that lists a variable, with what it lists TIED to the program's text (the seventh form; the later family's looks); each row that meets fmt, with fmt's text TOLD by the authors' own Lean function (tested against real Go, not proved from fmt's source: count such statements apart). THE CARD IS WHAT COUNTS. Prove the row's statement (the work); the ties are given (YtgjamnhjlaohaaaGreatDoorTie.lean); close each card by the builder's one call (the guide's Derived/Test/ToyasCard.lean, 'card_holds'). Laid BY PROGRAM, IN A SANDBOX (cutbox-door.mjs). By AI agents, Wed Nov 11 2026. No macro, syntax, notation, axiom, sorry.
-/
import Derived.Test.YtgjamnhjlaohaaaGreatDoorRows
import GoSem.ClaimSeven
namespace Go.Proofs.YtgjamnhjlaohaaaGreatDoor
namespace Rows

/-- THE TIED CARD OF 'delayslottop.TopSafe'. -/
def topSafeCard : Claim7 := { stood := { row := topSafeRow, standIns := [], harness := (true, "bd0997bd7e59a73f7bd63bec8664e4570b97f92bdd600b7712ef87a1d7460758"), looks := false }, kinds := [], alts := [], laidByText := true, laidKinds := [.listed, .data], laidTests := true, laidLooks := .later }
def TopSafeCardSaid : Prop := Claim7.holds Tryz.pinned (.plain (OpenSpec.ofChange topSafeSpec)) topSafeCard

/-- THE SECOND FORM's CARD OF 'delayslottop.TopSafe'. -/
def topSafeUptoCard : Claim7 := { stood := { row := topSafeUptoRow, standIns := [], harness := (true, "bd0997bd7e59a73f7bd63bec8664e4570b97f92bdd600b7712ef87a1d7460758"), looks := false }, kinds := [], alts := [], laidByText := true, laidKinds := [.listed, .data], laidTests := true, laidLooks := .later }
def TopSafeUptoCardSaid : Prop := Claim7.holds Tryz.pinned (.plain (OpenSpec.upto topSafeSpec)) topSafeUptoCard
end Rows
end Go.Proofs.YtgjamnhjlaohaaaGreatDoor
