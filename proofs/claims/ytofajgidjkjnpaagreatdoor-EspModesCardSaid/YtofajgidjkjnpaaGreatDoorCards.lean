/-
  DERIVED. GIVEN WITH THE SEED: THE CARDS: each row of YtofajgidjkjnpaaGreatDoorRows.lean that lists a variable, with what it lists TIED to the program's text (the seventh form; the later family's looks); each row that meets fmt, with fmt's text TOLD by the authors' own Lean function (tested against real Go, not proved from fmt's source: count such statements apart). THE CARD IS WHAT COUNTS. Prove the row's statement (the work); the ties are given (YtofajgidjkjnpaaGreatDoorTie.lean); close each card by the builder's one call (the guide's Derived/Test/ToyasCard.lean, 'card_holds'). Laid BY PROGRAM, IN A SANDBOX (cutbox-door.mjs). By AI agents, Wed Nov 11 2026. No macro, syntax, notation, axiom, sorry.
-/
import Derived.Test.YtofajgidjkjnpaaGreatDoorRows
import GoSem.ClaimSeven
namespace Go.Proofs.YtofajgidjkjnpaaGreatDoor
namespace Rows

/-- THE TIED CARD OF 'ipsecgatelaw24.EspModes'. -/
def espModesCard : Claim7 := { stood := { row := espModesRow, standIns := [], harness := (true, "22e1eae2b4061425c60a028d84849e961450b86129a411eead200df3b8df6a56"), looks := false }, kinds := [], alts := [], laidByText := true, laidKinds := [.data], laidTests := true, laidLooks := .later }
def EspModesCardSaid : Prop := Claim7.holds Tryz.pinned (.plain (OpenSpec.ofChange espModesSpec)) espModesCard

/-- THE SECOND FORM's CARD OF 'ipsecgatelaw24.EspModes'. -/
def espModesUptoCard : Claim7 := { stood := { row := espModesUptoRow, standIns := [], harness := (true, "22e1eae2b4061425c60a028d84849e961450b86129a411eead200df3b8df6a56"), looks := false }, kinds := [], alts := [], laidByText := true, laidKinds := [.data], laidTests := true, laidLooks := .later }
def EspModesUptoCardSaid : Prop := Claim7.holds Tryz.pinned (.plain (OpenSpec.upto espModesSpec)) espModesUptoCard
end Rows
end Go.Proofs.YtofajgidjkjnpaaGreatDoor
