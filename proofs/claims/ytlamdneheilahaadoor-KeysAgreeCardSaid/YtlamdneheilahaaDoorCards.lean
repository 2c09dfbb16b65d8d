/-
  DERIVED. GIVEN WITH THE SEED: THE CARDS: each row of YtlamdneheilahaaDoorRows.lean that lists a variable, with what it lists TIED to the program's text (the seventh form; the later family's looks); each row that meets fmt, with fmt's text TOLD by the authors' own Lean function (tested against real Go, not proved from fmt's source: count such statements apart). THE CARD IS WHAT COUNTS. Prove the row's statement (the work); the ties are given (YtlamdneheilahaaDoorTie.lean); close each card by the builder's one call (the guide's Derived/Test/ToyasCard.lean, 'card_holds'). Laid BY PROGRAM, IN A SANDBOX (cutbox-door.mjs). By AI agents, Wed Nov 11 2026. No macro, syntax, notation, axiom, sorry.
-/
import Derived.Test.YtlamdneheilahaaDoorRows
import GoSem.ClaimSeven
namespace Go.Proofs.YtlamdneheilahaaDoor
namespace Rows

/-- THE TIED CARD OF 'ipsecgatelaw08.Sha256Sums'. -/
def sha256SumsCard : Claim7 := { stood := { row := sha256SumsRow, standIns := [], harness := (true, "73027a4d3a1ac33af86663e6da6d92642caee3b060a9833e6d681f9af5a5b3ab"), looks := false }, kinds := [], alts := [], laidByText := true, laidKinds := [.data, .data], laidTests := true, laidLooks := .later }
def Sha256SumsCardSaid : Prop := Claim7.holds Tryd.pinned (.plain (OpenSpec.ofChange sha256SumsSpec)) sha256SumsCard

/-- THE TIED CARD OF 'ipsecgatelaw08.Sha256Pads'. -/
def sha256PadsCard : Claim7 := { stood := { row := sha256PadsRow, standIns := [], harness := (true, "73027a4d3a1ac33af86663e6da6d92642caee3b060a9833e6d681f9af5a5b3ab"), looks := false }, kinds := [], alts := [], laidByText := true, laidKinds := [.data, .data], laidTests := true, laidLooks := .later }
def Sha256PadsCardSaid : Prop := Claim7.holds Tryd.pinned (.plain (OpenSpec.ofChange sha256PadsSpec)) sha256PadsCard

/-- THE TIED CARD OF 'ipsecgatelaw08.Sha256Grows'. -/
def sha256GrowsCard : Claim7 := { stood := { row := sha256GrowsRow, standIns := [], harness := (true, "73027a4d3a1ac33af86663e6da6d92642caee3b060a9833e6d681f9af5a5b3ab"), looks := false }, kinds := [], alts := [], laidByText := true, laidKinds := [.data, .data], laidTests := true, laidLooks := .later }
def Sha256GrowsCardSaid : Prop := Claim7.holds Tryd.pinned (.plain (OpenSpec.ofChange sha256GrowsSpec)) sha256GrowsCard

/-- THE TIED CARD OF 'ipsecgatelaw09.PrfSums'. -/
def prfSumsCard : Claim7 := { stood := { row := prfSumsRow, standIns := [], harness := (true, "73027a4d3a1ac33af86663e6da6d92642caee3b060a9833e6d681f9af5a5b3ab"), looks := false }, kinds := [], alts := [], laidByText := true, laidKinds := [.data, .data], laidTests := true, laidLooks := .later }
def PrfSumsCardSaid : Prop := Claim7.holds Tryd.pinned (.plain (OpenSpec.ofChange prfSumsSpec)) prfSumsCard

/-- THE TIED CARD OF 'ipsecgatelaw09.PrfNests'. -/
def prfNestsCard : Claim7 := { stood := { row := prfNestsRow, standIns := [], harness := (true, "73027a4d3a1ac33af86663e6da6d92642caee3b060a9833e6d681f9af5a5b3ab"), looks := false }, kinds := [], alts := [], laidByText := true, laidKinds := [.data, .data], laidTests := true, laidLooks := .later }
def PrfNestsCardSaid : Prop := Claim7.holds Tryd.pinned (.plain (OpenSpec.ofChange prfNestsSpec)) prfNestsCard

/-- THE TIED CARD OF 'ipsecgatelaw16.KeysProve'. -/
def keysProveCard : Claim7 := { stood := { row := keysProveRow, standIns := [], harness := (true, "73027a4d3a1ac33af86663e6da6d92642caee3b060a9833e6d681f9af5a5b3ab"), looks := false }, kinds := [], alts := [], laidByText := true, laidKinds := [.data, .data], laidTests := true, laidLooks := .later }
def KeysProveCardSaid : Prop := Claim7.holds Tryd.pinned (.plain (OpenSpec.ofChange keysProveSpec)) keysProveCard

/-- THE TIED CARD OF 'ipsecgatelaw09.PrfMany'. -/
def prfManyCard : Claim7 := { stood := { row := prfManyRow, standIns := [], harness := (true, "73027a4d3a1ac33af86663e6da6d92642caee3b060a9833e6d681f9af5a5b3ab"), looks := false }, kinds := [], alts := [], laidByText := true, laidKinds := [.data, .data], laidTests := true, laidLooks := .later }
def PrfManyCardSaid : Prop := Claim7.holds Tryd.pinned (.plain (OpenSpec.ofChange prfManySpec)) prfManyCard

/-- THE TIED CARD OF 'ipsecgatelaw09.PrfBegins'. -/
def prfBeginsCard : Claim7 := { stood := { row := prfBeginsRow, standIns := [], harness := (true, "73027a4d3a1ac33af86663e6da6d92642caee3b060a9833e6d681f9af5a5b3ab"), looks := false }, kinds := [], alts := [], laidByText := true, laidKinds := [.data, .data], laidTests := true, laidLooks := .later }
def PrfBeginsCardSaid : Prop := Claim7.holds Tryd.pinned (.plain (OpenSpec.ofChange prfBeginsSpec)) prfBeginsCard

/-- THE TIED CARD OF 'ipsecgatelaw16.KeysChains'. -/
def keysChainsCard : Claim7 := { stood := { row := keysChainsRow, standIns := [], harness := (true, "73027a4d3a1ac33af86663e6da6d92642caee3b060a9833e6d681f9af5a5b3ab"), looks := false }, kinds := [], alts := [], laidByText := true, laidKinds := [.data, .data, .widerDeep], laidTests := true, laidLooks := .later }
def KeysChainsCardSaid : Prop := Claim7.holds Tryd.pinned (.plain (OpenSpec.ofChange keysChainsSpec)) keysChainsCard

/-- THE TIED CARD OF 'ipsecgatelaw16.KeysDerive'. -/
def keysDeriveCard : Claim7 := { stood := { row := keysDeriveRow, standIns := [], harness := (true, "73027a4d3a1ac33af86663e6da6d92642caee3b060a9833e6d681f9af5a5b3ab"), looks := false }, kinds := [], alts := [], laidByText := true, laidKinds := [.data, .data, .widerDeep], laidTests := true, laidLooks := .later }
def KeysDeriveCardSaid : Prop := Claim7.holds Tryd.pinned (.plain (OpenSpec.ofChange keysDeriveSpec)) keysDeriveCard

/-- THE TIED CARD OF 'ipsecgatelaw12.AeadSeals'. -/
def aeadSealsCard : Claim7 := { stood := { row := aeadSealsRow, standIns := [], harness := (true, "73027a4d3a1ac33af86663e6da6d92642caee3b060a9833e6d681f9af5a5b3ab"), looks := false }, kinds := [], alts := [], laidByText := true, laidKinds := [.data], laidTests := true, laidLooks := .later }
def AeadSealsCardSaid : Prop := Claim7.holds Tryd.pinned (.plain (OpenSpec.ofChange aeadSealsSpec)) aeadSealsCard

/-- THE TIED CARD OF 'ipsecgatelaw12.AeadOpens'. -/
def aeadOpensCard : Claim7 := { stood := { row := aeadOpensRow, standIns := [], harness := (true, "73027a4d3a1ac33af86663e6da6d92642caee3b060a9833e6d681f9af5a5b3ab"), looks := false }, kinds := [], alts := [], laidByText := true, laidKinds := [.data], laidTests := true, laidLooks := .later }
def AeadOpensCardSaid : Prop := Claim7.holds Tryd.pinned (.plain (OpenSpec.ofChange aeadOpensSpec)) aeadOpensCard

/-- THE TIED CARD OF 'ipsecgatelaw12.AeadReturns'. -/
def aeadReturnsCard : Claim7 := { stood := { row := aeadReturnsRow, standIns := [], harness := (true, "73027a4d3a1ac33af86663e6da6d92642caee3b060a9833e6d681f9af5a5b3ab"), looks := false }, kinds := [], alts := [], laidByText := true, laidKinds := [.data], laidTests := true, laidLooks := .later }
def AeadReturnsCardSaid : Prop := Claim7.holds Tryd.pinned (.plain (OpenSpec.ofChange aeadReturnsSpec)) aeadReturnsCard

/-- THE TIED CARD OF 'ipsecgatelaw12.AeadJoins'. -/
def aeadJoinsCard : Claim7 := { stood := { row := aeadJoinsRow, standIns := [], harness := (true, "73027a4d3a1ac33af86663e6da6d92642caee3b060a9833e6d681f9af5a5b3ab"), looks := false }, kinds := [], alts := [], laidByText := true, laidKinds := [.data], laidTests := true, laidLooks := .later }
def AeadJoinsCardSaid : Prop := Claim7.holds Tryd.pinned (.plain (OpenSpec.ofChange aeadJoinsSpec)) aeadJoinsCard

/-- THE TIED CARD OF 'ipsecgatelaw16.KeysAgree'. -/
def keysAgreeCard : Claim7 := { stood := { row := keysAgreeRow, standIns := [], harness := (true, "73027a4d3a1ac33af86663e6da6d92642caee3b060a9833e6d681f9af5a5b3ab"), looks := false }, kinds := [], alts := [], laidByText := true, laidKinds := [.data, .data, .widerDeep], laidTests := true, laidLooks := .later }
def KeysAgreeCardSaid : Prop := Claim7.holds Tryd.pinned (.plain (OpenSpec.ofChange keysAgreeSpec)) keysAgreeCard

/-- THE SECOND FORM's CARD OF 'ipsecgatelaw08.Sha256Sums'. -/
def sha256SumsUptoCard : Claim7 := { stood := { row := sha256SumsUptoRow, standIns := [], harness := (true, "73027a4d3a1ac33af86663e6da6d92642caee3b060a9833e6d681f9af5a5b3ab"), looks := false }, kinds := [], alts := [], laidByText := true, laidKinds := [.data, .data], laidTests := true, laidLooks := .later }
def Sha256SumsUptoCardSaid : Prop := Claim7.holds Tryd.pinned (.plain (OpenSpec.upto sha256SumsSpec)) sha256SumsUptoCard

/-- THE SECOND FORM's CARD OF 'ipsecgatelaw08.Sha256Pads'. -/
def sha256PadsUptoCard : Claim7 := { stood := { row := sha256PadsUptoRow, standIns := [], harness := (true, "73027a4d3a1ac33af86663e6da6d92642caee3b060a9833e6d681f9af5a5b3ab"), looks := false }, kinds := [], alts := [], laidByText := true, laidKinds := [.data, .data], laidTests := true, laidLooks := .later }
def Sha256PadsUptoCardSaid : Prop := Claim7.holds Tryd.pinned (.plain (OpenSpec.upto sha256PadsSpec)) sha256PadsUptoCard

/-- THE SECOND FORM's CARD OF 'ipsecgatelaw08.Sha256Grows'. -/
def sha256GrowsUptoCard : Claim7 := { stood := { row := sha256GrowsUptoRow, standIns := [], harness := (true, "73027a4d3a1ac33af86663e6da6d92642caee3b060a9833e6d681f9af5a5b3ab"), looks := false }, kinds := [], alts := [], laidByText := true, laidKinds := [.data, .data], laidTests := true, laidLooks := .later }
def Sha256GrowsUptoCardSaid : Prop := Claim7.holds Tryd.pinned (.plain (OpenSpec.upto sha256GrowsSpec)) sha256GrowsUptoCard

/-- THE SECOND FORM's CARD OF 'ipsecgatelaw09.PrfSums'. -/
def prfSumsUptoCard : Claim7 := { stood := { row := prfSumsUptoRow, standIns := [], harness := (true, "73027a4d3a1ac33af86663e6da6d92642caee3b060a9833e6d681f9af5a5b3ab"), looks := false }, kinds := [], alts := [], laidByText := true, laidKinds := [.data, .data], laidTests := true, laidLooks := .later }
def PrfSumsUptoCardSaid : Prop := Claim7.holds Tryd.pinned (.plain (OpenSpec.upto prfSumsSpec)) prfSumsUptoCard

/-- THE SECOND FORM's CARD OF 'ipsecgatelaw09.PrfNests'. -/
def prfNestsUptoCard : Claim7 := { stood := { row := prfNestsUptoRow, standIns := [], harness := (true, "73027a4d3a1ac33af86663e6da6d92642caee3b060a9833e6d681f9af5a5b3ab"), looks := false }, kinds := [], alts := [], laidByText := true, laidKinds := [.data, .data], laidTests := true, laidLooks := .later }
def PrfNestsUptoCardSaid : Prop := Claim7.holds Tryd.pinned (.plain (OpenSpec.upto prfNestsSpec)) prfNestsUptoCard

/-- THE SECOND FORM's CARD OF 'ipsecgatelaw16.KeysProve'. -/
def keysProveUptoCard : Claim7 := { stood := { row := keysProveUptoRow, standIns := [], harness := (true, "73027a4d3a1ac33af86663e6da6d92642caee3b060a9833e6d681f9af5a5b3ab"), looks := false }, kinds := [], alts := [], laidByText := true, laidKinds := [.data, .data], laidTests := true, laidLooks := .later }
def KeysProveUptoCardSaid : Prop := Claim7.holds Tryd.pinned (.plain (OpenSpec.upto keysProveSpec)) keysProveUptoCard

/-- THE SECOND FORM's CARD OF 'ipsecgatelaw09.PrfMany'. -/
def prfManyUptoCard : Claim7 := { stood := { row := prfManyUptoRow, standIns := [], harness := (true, "73027a4d3a1ac33af86663e6da6d92642caee3b060a9833e6d681f9af5a5b3ab"), looks := false }, kinds := [], alts := [], laidByText := true, laidKinds := [.data, .data], laidTests := true, laidLooks := .later }
def PrfManyUptoCardSaid : Prop := Claim7.holds Tryd.pinned (.plain (OpenSpec.upto prfManySpec)) prfManyUptoCard

/-- THE SECOND FORM's CARD OF 'ipsecgatelaw09.PrfBegins'. -/
def prfBeginsUptoCard : Claim7 := { stood := { row := prfBeginsUptoRow, standIns := [], harness := (true, "73027a4d3a1ac33af86663e6da6d92642caee3b060a9833e6d681f9af5a5b3ab"), looks := false }, kinds := [], alts := [], laidByText := true, laidKinds := [.data, .data], laidTests := true, laidLooks := .later }
def PrfBeginsUptoCardSaid : Prop := Claim7.holds Tryd.pinned (.plain (OpenSpec.upto prfBeginsSpec)) prfBeginsUptoCard

/-- THE SECOND FORM's CARD OF 'ipsecgatelaw16.KeysChains'. -/
def keysChainsUptoCard : Claim7 := { stood := { row := keysChainsUptoRow, standIns := [], harness := (true, "73027a4d3a1ac33af86663e6da6d92642caee3b060a9833e6d681f9af5a5b3ab"), looks := false }, kinds := [], alts := [], laidByText := true, laidKinds := [.data, .data, .widerDeep], laidTests := true, laidLooks := .later }
def KeysChainsUptoCardSaid : Prop := Claim7.holds Tryd.pinned (.plain (OpenSpec.upto keysChainsSpec)) keysChainsUptoCard

/-- THE SECOND FORM's CARD OF 'ipsecgatelaw16.KeysDerive'. -/
def keysDeriveUptoCard : Claim7 := { stood := { row := keysDeriveUptoRow, standIns := [], harness := (true, "73027a4d3a1ac33af86663e6da6d92642caee3b060a9833e6d681f9af5a5b3ab"), looks := false }, kinds := [], alts := [], laidByText := true, laidKinds := [.data, .data, .widerDeep], laidTests := true, laidLooks := .later }
def KeysDeriveUptoCardSaid : Prop := Claim7.holds Tryd.pinned (.plain (OpenSpec.upto keysDeriveSpec)) keysDeriveUptoCard

/-- THE SECOND FORM's CARD OF 'ipsecgatelaw12.AeadSeals'. -/
def aeadSealsUptoCard : Claim7 := { stood := { row := aeadSealsUptoRow, standIns := [], harness := (true, "73027a4d3a1ac33af86663e6da6d92642caee3b060a9833e6d681f9af5a5b3ab"), looks := false }, kinds := [], alts := [], laidByText := true, laidKinds := [.data], laidTests := true, laidLooks := .later }
def AeadSealsUptoCardSaid : Prop := Claim7.holds Tryd.pinned (.plain (OpenSpec.upto aeadSealsSpec)) aeadSealsUptoCard

/-- THE SECOND FORM's CARD OF 'ipsecgatelaw12.AeadOpens'. -/
def aeadOpensUptoCard : Claim7 := { stood := { row := aeadOpensUptoRow, standIns := [], harness := (true, "73027a4d3a1ac33af86663e6da6d92642caee3b060a9833e6d681f9af5a5b3ab"), looks := false }, kinds := [], alts := [], laidByText := true, laidKinds := [.data], laidTests := true, laidLooks := .later }
def AeadOpensUptoCardSaid : Prop := Claim7.holds Tryd.pinned (.plain (OpenSpec.upto aeadOpensSpec)) aeadOpensUptoCard

/-- THE SECOND FORM's CARD OF 'ipsecgatelaw12.AeadReturns'. -/
def aeadReturnsUptoCard : Claim7 := { stood := { row := aeadReturnsUptoRow, standIns := [], harness := (true, "73027a4d3a1ac33af86663e6da6d92642caee3b060a9833e6d681f9af5a5b3ab"), looks := false }, kinds := [], alts := [], laidByText := true, laidKinds := [.data], laidTests := true, laidLooks := .later }
def AeadReturnsUptoCardSaid : Prop := Claim7.holds Tryd.pinned (.plain (OpenSpec.upto aeadReturnsSpec)) aeadReturnsUptoCard

/-- THE SECOND FORM's CARD OF 'ipsecgatelaw12.AeadJoins'. -/
def aeadJoinsUptoCard : Claim7 := { stood := { row := aeadJoinsUptoRow, standIns := [], harness := (true, "73027a4d3a1ac33af86663e6da6d92642caee3b060a9833e6d681f9af5a5b3ab"), looks := false }, kinds := [], alts := [], laidByText := true, laidKinds := [.data], laidTests := true, laidLooks := .later }
def AeadJoinsUptoCardSaid : Prop := Claim7.holds Tryd.pinned (.plain (OpenSpec.upto aeadJoinsSpec)) aeadJoinsUptoCard

/-- THE SECOND FORM's CARD OF 'ipsecgatelaw16.KeysAgree'. -/
def keysAgreeUptoCard : Claim7 := { stood := { row := keysAgreeUptoRow, standIns := [], harness := (true, "73027a4d3a1ac33af86663e6da6d92642caee3b060a9833e6d681f9af5a5b3ab"), looks := false }, kinds := [], alts := [], laidByText := true, laidKinds := [.data, .data, .widerDeep], laidTests := true, laidLooks := .later }
def KeysAgreeUptoCardSaid : Prop := Claim7.holds Tryd.pinned (.plain (OpenSpec.upto keysAgreeSpec)) keysAgreeUptoCard
end Rows
end Go.Proofs.YtlamdneheilahaaDoor
