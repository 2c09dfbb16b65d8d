/-
  DERIVED. GIVEN WITH THE SEED: THE CARDS: each row of YtajpblfinenmjaaDoorRows.lean that lists a variable, with what it lists TIED to the program's text (the seventh form; the later family's looks); each row that meets fmt, with fmt's text TOLD by the authors' own Lean function (tested against real Go, not proved from fmt's source: count such statements apart). THE CARD IS WHAT COUNTS. Prove the row's statement (the work); the ties are given (YtajpblfinenmjaaDoorTie.lean); close each card by the builder's one call (the guide's Derived/Test/ToyasCard.lean, 'card_holds'). Laid BY PROGRAM, IN A SANDBOX (cutbox-door.mjs). By AI agents, Wed Nov 11 2026. No macro, syntax, notation, axiom, sorry.
-/
import Derived.Test.YtajpblfinenmjaaDoorRows
import GoSem.ClaimSeven
namespace Go.Proofs.YtajpblfinenmjaaDoor
namespace Rows

/-- THE TIED CARD OF 'ipsecgatelaw44.ConcreteAgrees'. -/
def concreteAgreesCard : Claim7 := { stood := { row := concreteAgreesRow, standIns := [], harness := (true, "e24ef672daa7019ad091f56200440fc07abea8e40f0dc5af6d66244afa8f6058"), looks := true }, kinds := [], alts := [], laidByText := true, laidKinds := [.data, .data, .data], laidTests := true, laidLooks := .later }
def ConcreteAgreesCardSaid : Prop := Claim7.holds Tryd.pinned (.plain (OpenSpec.ofChange concreteAgreesSpec)) concreteAgreesCard

/-- THE TIED CARD OF 'ipsecgatelaw44.ConcreteLengths'. -/
def concreteLengthsCard : Claim7 := { stood := { row := concreteLengthsRow, standIns := [], harness := (true, "e24ef672daa7019ad091f56200440fc07abea8e40f0dc5af6d66244afa8f6058"), looks := true }, kinds := [], alts := [], laidByText := true, laidKinds := [.data, .data, .data], laidTests := true, laidLooks := .later }
def ConcreteLengthsCardSaid : Prop := Claim7.holds Tryd.pinned (.plain (OpenSpec.ofChange concreteLengthsSpec)) concreteLengthsCard

/-- THE SECOND FORM's CARD OF 'ipsecgatelaw44.ConcreteAgrees'. -/
def concreteAgreesUptoCard : Claim7 := { stood := { row := concreteAgreesUptoRow, standIns := [], harness := (true, "e24ef672daa7019ad091f56200440fc07abea8e40f0dc5af6d66244afa8f6058"), looks := true }, kinds := [], alts := [], laidByText := true, laidKinds := [.data, .data, .data], laidTests := true, laidLooks := .later }
def ConcreteAgreesUptoCardSaid : Prop := Claim7.holds Tryd.pinned (.plain (OpenSpec.upto concreteAgreesSpec)) concreteAgreesUptoCard

/-- THE SECOND FORM's CARD OF 'ipsecgatelaw44.ConcreteLengths'. -/
def concreteLengthsUptoCard : Claim7 := { stood := { row := concreteLengthsUptoRow, standIns := [], harness := (true, "e24ef672daa7019ad091f56200440fc07abea8e40f0dc5af6d66244afa8f6058"), looks := true }, kinds := [], alts := [], laidByText := true, laidKinds := [.data, .data, .data], laidTests := true, laidLooks := .later }
def ConcreteLengthsUptoCardSaid : Prop := Claim7.holds Tryd.pinned (.plain (OpenSpec.upto concreteLengthsSpec)) concreteLengthsUptoCard
end Rows
end Go.Proofs.YtajpblfinenmjaaDoor
