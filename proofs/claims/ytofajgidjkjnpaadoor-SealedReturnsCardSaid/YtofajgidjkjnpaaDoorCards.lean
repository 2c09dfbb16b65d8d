/-
  DERIVED. GIVEN WITH THE SEED: THE CARDS: each row of YtofajgidjkjnpaaDoorRows.lean that lists a variable, with what it lists TIED to the program's text (the seventh form; the later family's looks); each row that meets fmt, with fmt's text TOLD by the authors' own Lean function (tested against real Go, not proved from fmt's source: count such statements apart). THE CARD IS WHAT COUNTS. Prove the row's statement (the work); the ties are given (YtofajgidjkjnpaaDoorTie.lean); close each card by the builder's one call (the guide's Derived/Test/ToyasCard.lean, 'card_holds'). Laid BY PROGRAM, IN A SANDBOX (cutbox-door.mjs). By AI agents, Wed Nov 11 2026. No macro, syntax, notation, axiom, sorry.
-/
import Derived.Test.YtofajgidjkjnpaaDoorRows
import GoSem.ClaimSeven
namespace Go.Proofs.YtofajgidjkjnpaaDoor
namespace Rows

/-- THE TIED CARD OF 'ipsecgatelaw15.SchnorrSigns'. -/
def schnorrSignsCard : Claim7 := { stood := { row := schnorrSignsRow, standIns := [], harness := (true, "aff18e342b983b877096d496ef68d7f31bb15b22f11deb9ac5c1baff88986216"), looks := false }, kinds := [], alts := [], laidByText := true, laidKinds := [.data, .data], laidTests := true, laidLooks := .later }
def SchnorrSignsCardSaid : Prop := Claim7.holds Tryd.pinned (.plain (OpenSpec.ofChange schnorrSignsSpec)) schnorrSignsCard

/-- THE TIED CARD OF 'ipsecgatelaw24.EspSeals'. -/
def espSealsCard : Claim7 := { stood := { row := espSealsRow, standIns := [], harness := (true, "aff18e342b983b877096d496ef68d7f31bb15b22f11deb9ac5c1baff88986216"), looks := false }, kinds := [], alts := [], laidByText := true, laidKinds := [.data], laidTests := true, laidLooks := .later }
def EspSealsCardSaid : Prop := Claim7.holds Tryd.pinned (.plain (OpenSpec.ofChange espSealsSpec)) espSealsCard

/-- THE TIED CARD OF 'ipsecgatelaw24.EspOpens'. -/
def espOpensCard : Claim7 := { stood := { row := espOpensRow, standIns := [], harness := (true, "aff18e342b983b877096d496ef68d7f31bb15b22f11deb9ac5c1baff88986216"), looks := false }, kinds := [], alts := [], laidByText := true, laidKinds := [.data], laidTests := true, laidLooks := .later }
def EspOpensCardSaid : Prop := Claim7.holds Tryd.pinned (.plain (OpenSpec.ofChange espOpensSpec)) espOpensCard

/-- THE TIED CARD OF 'ipsecgatelaw24.EspPads'. -/
def espPadsCard : Claim7 := { stood := { row := espPadsRow, standIns := [], harness := (true, "aff18e342b983b877096d496ef68d7f31bb15b22f11deb9ac5c1baff88986216"), looks := false }, kinds := [], alts := [], laidByText := true, laidKinds := [.data], laidTests := true, laidLooks := .later }
def EspPadsCardSaid : Prop := Claim7.holds Tryd.pinned (.plain (OpenSpec.ofChange espPadsSpec)) espPadsCard

/-- THE TIED CARD OF 'ipsecgatelaw15.SchnorrAccepts'. -/
def schnorrAcceptsCard : Claim7 := { stood := { row := schnorrAcceptsRow, standIns := [], harness := (true, "aff18e342b983b877096d496ef68d7f31bb15b22f11deb9ac5c1baff88986216"), looks := false }, kinds := [], alts := [], laidByText := true, laidKinds := [.data, .data], laidTests := true, laidLooks := .later }
def SchnorrAcceptsCardSaid : Prop := Claim7.holds Tryd.pinned (.plain (OpenSpec.ofChange schnorrAcceptsSpec)) schnorrAcceptsCard

/-- THE TIED CARD OF 'ipsecgatelaw15.SchnorrChains'. -/
def schnorrChainsCard : Claim7 := { stood := { row := schnorrChainsRow, standIns := [], harness := (true, "aff18e342b983b877096d496ef68d7f31bb15b22f11deb9ac5c1baff88986216"), looks := false }, kinds := [], alts := [], laidByText := true, laidKinds := [.data, .data], laidTests := true, laidLooks := .later }
def SchnorrChainsCardSaid : Prop := Claim7.holds Tryd.pinned (.plain (OpenSpec.ofChange schnorrChainsSpec)) schnorrChainsCard

/-- THE TIED CARD OF 'ipsecgatelaw17.SealedJoins'. -/
def sealedJoinsCard : Claim7 := { stood := { row := sealedJoinsRow, standIns := [], harness := (true, "aff18e342b983b877096d496ef68d7f31bb15b22f11deb9ac5c1baff88986216"), looks := false }, kinds := [], alts := [], laidByText := true, laidKinds := [.data], laidTests := true, laidLooks := .later }
def SealedJoinsCardSaid : Prop := Claim7.holds Tryd.pinned (.plain (OpenSpec.ofChange sealedJoinsSpec)) sealedJoinsCard

/-- THE TIED CARD OF 'ipsecgatelaw17.SealedOpens'. -/
def sealedOpensCard : Claim7 := { stood := { row := sealedOpensRow, standIns := [], harness := (true, "aff18e342b983b877096d496ef68d7f31bb15b22f11deb9ac5c1baff88986216"), looks := false }, kinds := [], alts := [], laidByText := true, laidKinds := [.data], laidTests := true, laidLooks := .later }
def SealedOpensCardSaid : Prop := Claim7.holds Tryd.pinned (.plain (OpenSpec.ofChange sealedOpensSpec)) sealedOpensCard

/-- THE TIED CARD OF 'ipsecgatelaw17.SealedWrites'. -/
def sealedWritesCard : Claim7 := { stood := { row := sealedWritesRow, standIns := [], harness := (true, "aff18e342b983b877096d496ef68d7f31bb15b22f11deb9ac5c1baff88986216"), looks := false }, kinds := [], alts := [], laidByText := true, laidKinds := [.data], laidTests := true, laidLooks := .later }
def SealedWritesCardSaid : Prop := Claim7.holds Tryd.pinned (.plain (OpenSpec.ofChange sealedWritesSpec)) sealedWritesCard

/-- THE TIED CARD OF 'ipsecgatelaw24.EspCarries'. -/
def espCarriesCard : Claim7 := { stood := { row := espCarriesRow, standIns := [], harness := (true, "aff18e342b983b877096d496ef68d7f31bb15b22f11deb9ac5c1baff88986216"), looks := false }, kinds := [], alts := [], laidByText := true, laidKinds := [.data], laidTests := true, laidLooks := .later }
def EspCarriesCardSaid : Prop := Claim7.holds Tryd.pinned (.plain (OpenSpec.ofChange espCarriesSpec)) espCarriesCard

/-- THE TIED CARD OF 'ipsecgatelaw17.SealedTotals'. -/
def sealedTotalsCard : Claim7 := { stood := { row := sealedTotalsRow, standIns := [], harness := (true, "aff18e342b983b877096d496ef68d7f31bb15b22f11deb9ac5c1baff88986216"), looks := false }, kinds := [], alts := [], laidByText := true, laidKinds := [.data], laidTests := true, laidLooks := .later }
def SealedTotalsCardSaid : Prop := Claim7.holds Tryd.pinned (.plain (OpenSpec.ofChange sealedTotalsSpec)) sealedTotalsCard

/-- THE TIED CARD OF 'ipsecgatelaw17.SealedReturns'. -/
def sealedReturnsCard : Claim7 := { stood := { row := sealedReturnsRow, standIns := [], harness := (true, "aff18e342b983b877096d496ef68d7f31bb15b22f11deb9ac5c1baff88986216"), looks := false }, kinds := [], alts := [], laidByText := true, laidKinds := [.data], laidTests := true, laidLooks := .later }
def SealedReturnsCardSaid : Prop := Claim7.holds Tryd.pinned (.plain (OpenSpec.ofChange sealedReturnsSpec)) sealedReturnsCard

/-- THE SECOND FORM's CARD OF 'ipsecgatelaw15.SchnorrSigns'. -/
def schnorrSignsUptoCard : Claim7 := { stood := { row := schnorrSignsUptoRow, standIns := [], harness := (true, "aff18e342b983b877096d496ef68d7f31bb15b22f11deb9ac5c1baff88986216"), looks := false }, kinds := [], alts := [], laidByText := true, laidKinds := [.data, .data], laidTests := true, laidLooks := .later }
def SchnorrSignsUptoCardSaid : Prop := Claim7.holds Tryd.pinned (.plain (OpenSpec.upto schnorrSignsSpec)) schnorrSignsUptoCard

/-- THE SECOND FORM's CARD OF 'ipsecgatelaw24.EspSeals'. -/
def espSealsUptoCard : Claim7 := { stood := { row := espSealsUptoRow, standIns := [], harness := (true, "aff18e342b983b877096d496ef68d7f31bb15b22f11deb9ac5c1baff88986216"), looks := false }, kinds := [], alts := [], laidByText := true, laidKinds := [.data], laidTests := true, laidLooks := .later }
def EspSealsUptoCardSaid : Prop := Claim7.holds Tryd.pinned (.plain (OpenSpec.upto espSealsSpec)) espSealsUptoCard

/-- THE SECOND FORM's CARD OF 'ipsecgatelaw24.EspOpens'. -/
def espOpensUptoCard : Claim7 := { stood := { row := espOpensUptoRow, standIns := [], harness := (true, "aff18e342b983b877096d496ef68d7f31bb15b22f11deb9ac5c1baff88986216"), looks := false }, kinds := [], alts := [], laidByText := true, laidKinds := [.data], laidTests := true, laidLooks := .later }
def EspOpensUptoCardSaid : Prop := Claim7.holds Tryd.pinned (.plain (OpenSpec.upto espOpensSpec)) espOpensUptoCard

/-- THE SECOND FORM's CARD OF 'ipsecgatelaw24.EspPads'. -/
def espPadsUptoCard : Claim7 := { stood := { row := espPadsUptoRow, standIns := [], harness := (true, "aff18e342b983b877096d496ef68d7f31bb15b22f11deb9ac5c1baff88986216"), looks := false }, kinds := [], alts := [], laidByText := true, laidKinds := [.data], laidTests := true, laidLooks := .later }
def EspPadsUptoCardSaid : Prop := Claim7.holds Tryd.pinned (.plain (OpenSpec.upto espPadsSpec)) espPadsUptoCard

/-- THE SECOND FORM's CARD OF 'ipsecgatelaw15.SchnorrAccepts'. -/
def schnorrAcceptsUptoCard : Claim7 := { stood := { row := schnorrAcceptsUptoRow, standIns := [], harness := (true, "aff18e342b983b877096d496ef68d7f31bb15b22f11deb9ac5c1baff88986216"), looks := false }, kinds := [], alts := [], laidByText := true, laidKinds := [.data, .data], laidTests := true, laidLooks := .later }
def SchnorrAcceptsUptoCardSaid : Prop := Claim7.holds Tryd.pinned (.plain (OpenSpec.upto schnorrAcceptsSpec)) schnorrAcceptsUptoCard

/-- THE SECOND FORM's CARD OF 'ipsecgatelaw15.SchnorrChains'. -/
def schnorrChainsUptoCard : Claim7 := { stood := { row := schnorrChainsUptoRow, standIns := [], harness := (true, "aff18e342b983b877096d496ef68d7f31bb15b22f11deb9ac5c1baff88986216"), looks := false }, kinds := [], alts := [], laidByText := true, laidKinds := [.data, .data], laidTests := true, laidLooks := .later }
def SchnorrChainsUptoCardSaid : Prop := Claim7.holds Tryd.pinned (.plain (OpenSpec.upto schnorrChainsSpec)) schnorrChainsUptoCard

/-- THE SECOND FORM's CARD OF 'ipsecgatelaw17.SealedJoins'. -/
def sealedJoinsUptoCard : Claim7 := { stood := { row := sealedJoinsUptoRow, standIns := [], harness := (true, "aff18e342b983b877096d496ef68d7f31bb15b22f11deb9ac5c1baff88986216"), looks := false }, kinds := [], alts := [], laidByText := true, laidKinds := [.data], laidTests := true, laidLooks := .later }
def SealedJoinsUptoCardSaid : Prop := Claim7.holds Tryd.pinned (.plain (OpenSpec.upto sealedJoinsSpec)) sealedJoinsUptoCard

/-- THE SECOND FORM's CARD OF 'ipsecgatelaw17.SealedOpens'. -/
def sealedOpensUptoCard : Claim7 := { stood := { row := sealedOpensUptoRow, standIns := [], harness := (true, "aff18e342b983b877096d496ef68d7f31bb15b22f11deb9ac5c1baff88986216"), looks := false }, kinds := [], alts := [], laidByText := true, laidKinds := [.data], laidTests := true, laidLooks := .later }
def SealedOpensUptoCardSaid : Prop := Claim7.holds Tryd.pinned (.plain (OpenSpec.upto sealedOpensSpec)) sealedOpensUptoCard

/-- THE SECOND FORM's CARD OF 'ipsecgatelaw17.SealedWrites'. -/
def sealedWritesUptoCard : Claim7 := { stood := { row := sealedWritesUptoRow, standIns := [], harness := (true, "aff18e342b983b877096d496ef68d7f31bb15b22f11deb9ac5c1baff88986216"), looks := false }, kinds := [], alts := [], laidByText := true, laidKinds := [.data], laidTests := true, laidLooks := .later }
def SealedWritesUptoCardSaid : Prop := Claim7.holds Tryd.pinned (.plain (OpenSpec.upto sealedWritesSpec)) sealedWritesUptoCard

/-- THE SECOND FORM's CARD OF 'ipsecgatelaw24.EspCarries'. -/
def espCarriesUptoCard : Claim7 := { stood := { row := espCarriesUptoRow, standIns := [], harness := (true, "aff18e342b983b877096d496ef68d7f31bb15b22f11deb9ac5c1baff88986216"), looks := false }, kinds := [], alts := [], laidByText := true, laidKinds := [.data], laidTests := true, laidLooks := .later }
def EspCarriesUptoCardSaid : Prop := Claim7.holds Tryd.pinned (.plain (OpenSpec.upto espCarriesSpec)) espCarriesUptoCard

/-- THE SECOND FORM's CARD OF 'ipsecgatelaw17.SealedTotals'. -/
def sealedTotalsUptoCard : Claim7 := { stood := { row := sealedTotalsUptoRow, standIns := [], harness := (true, "aff18e342b983b877096d496ef68d7f31bb15b22f11deb9ac5c1baff88986216"), looks := false }, kinds := [], alts := [], laidByText := true, laidKinds := [.data], laidTests := true, laidLooks := .later }
def SealedTotalsUptoCardSaid : Prop := Claim7.holds Tryd.pinned (.plain (OpenSpec.upto sealedTotalsSpec)) sealedTotalsUptoCard

/-- THE SECOND FORM's CARD OF 'ipsecgatelaw17.SealedReturns'. -/
def sealedReturnsUptoCard : Claim7 := { stood := { row := sealedReturnsUptoRow, standIns := [], harness := (true, "aff18e342b983b877096d496ef68d7f31bb15b22f11deb9ac5c1baff88986216"), looks := false }, kinds := [], alts := [], laidByText := true, laidKinds := [.data], laidTests := true, laidLooks := .later }
def SealedReturnsUptoCardSaid : Prop := Claim7.holds Tryd.pinned (.plain (OpenSpec.upto sealedReturnsSpec)) sealedReturnsUptoCard
end Rows
end Go.Proofs.YtofajgidjkjnpaaDoor
