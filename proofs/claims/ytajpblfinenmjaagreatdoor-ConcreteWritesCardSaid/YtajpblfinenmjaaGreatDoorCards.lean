/-
  DERIVED. GIVEN WITH THE SEED: THE CARDS: each row of YtajpblfinenmjaaGreatDoorRows.lean that lists a variable, with what it lists TIED to the program's text (the seventh form; the later family's looks); each row that meets fmt, with fmt's text TOLD by the authors' own Lean function (tested against real Go, not proved from fmt's source: count such statements apart). THE CARD IS WHAT COUNTS. Prove the row's statement (the work); the ties are given (YtajpblfinenmjaaGreatDoorTie.lean); close each card by the builder's one call (the guide's Derived/Test/ToyasCard.lean, 'card_holds'). Laid BY PROGRAM, IN A SANDBOX (cutbox-door.mjs). By AI agents, Wed Nov 11 2026. No macro, syntax, notation, axiom, sorry.
-/
import Derived.Test.YtajpblfinenmjaaGreatDoorRows
import GoSem.ClaimSeven
namespace Go.Proofs.YtajpblfinenmjaaGreatDoor
namespace Rows

/-- THE TIED CARD OF 'ipsecgatelaw44.ConcreteWrites'. -/
def concreteWritesCard : Claim7 := { stood := { row := concreteWritesRow, standIns := [], harness := (true, "e58f7ae75c28b162275247da38c0462c5a770cb6995dc1dbb93d2eeec6f765d3"), looks := true }, kinds := [], alts := [], laidByText := true, laidKinds := [.data, .data, .data], laidTests := true, laidLooks := .later }
def ConcreteWritesCardSaid : Prop := Claim7.holds Tryz.pinned (.plain (OpenSpec.ofChange concreteWritesSpec)) concreteWritesCard

/-- THE TIED CARD OF 'ipsecgatelaw44.ConcreteReturns'. -/
def concreteReturnsCard : Claim7 := { stood := { row := concreteReturnsRow, standIns := [], harness := (true, "e58f7ae75c28b162275247da38c0462c5a770cb6995dc1dbb93d2eeec6f765d3"), looks := true }, kinds := [], alts := [], laidByText := true, laidKinds := [.data, .data, .data], laidTests := true, laidLooks := .later }
def ConcreteReturnsCardSaid : Prop := Claim7.holds Tryz.pinned (.plain (OpenSpec.ofChange concreteReturnsSpec)) concreteReturnsCard

/-- THE TIED CARD OF 'ipsecgatelaw44.ConcreteHides'. -/
def concreteHidesCard : Claim7 := { stood := { row := concreteHidesRow, standIns := [], harness := (true, "e58f7ae75c28b162275247da38c0462c5a770cb6995dc1dbb93d2eeec6f765d3"), looks := true }, kinds := [], alts := [], laidByText := true, laidKinds := [.data, .data, .data], laidTests := true, laidLooks := .later }
def ConcreteHidesCardSaid : Prop := Claim7.holds Tryz.pinned (.plain (OpenSpec.ofChange concreteHidesSpec)) concreteHidesCard

/-- THE SECOND FORM's CARD OF 'ipsecgatelaw44.ConcreteWrites'. -/
def concreteWritesUptoCard : Claim7 := { stood := { row := concreteWritesUptoRow, standIns := [], harness := (true, "e58f7ae75c28b162275247da38c0462c5a770cb6995dc1dbb93d2eeec6f765d3"), looks := true }, kinds := [], alts := [], laidByText := true, laidKinds := [.data, .data, .data], laidTests := true, laidLooks := .later }
def ConcreteWritesUptoCardSaid : Prop := Claim7.holds Tryz.pinned (.plain (OpenSpec.upto concreteWritesSpec)) concreteWritesUptoCard

/-- THE SECOND FORM's CARD OF 'ipsecgatelaw44.ConcreteReturns'. -/
def concreteReturnsUptoCard : Claim7 := { stood := { row := concreteReturnsUptoRow, standIns := [], harness := (true, "e58f7ae75c28b162275247da38c0462c5a770cb6995dc1dbb93d2eeec6f765d3"), looks := true }, kinds := [], alts := [], laidByText := true, laidKinds := [.data, .data, .data], laidTests := true, laidLooks := .later }
def ConcreteReturnsUptoCardSaid : Prop := Claim7.holds Tryz.pinned (.plain (OpenSpec.upto concreteReturnsSpec)) concreteReturnsUptoCard

/-- THE SECOND FORM's CARD OF 'ipsecgatelaw44.ConcreteHides'. -/
def concreteHidesUptoCard : Claim7 := { stood := { row := concreteHidesUptoRow, standIns := [], harness := (true, "e58f7ae75c28b162275247da38c0462c5a770cb6995dc1dbb93d2eeec6f765d3"), looks := true }, kinds := [], alts := [], laidByText := true, laidKinds := [.data, .data, .data], laidTests := true, laidLooks := .later }
def ConcreteHidesUptoCardSaid : Prop := Claim7.holds Tryz.pinned (.plain (OpenSpec.upto concreteHidesSpec)) concreteHidesUptoCard
end Rows
end Go.Proofs.YtajpblfinenmjaaGreatDoor
