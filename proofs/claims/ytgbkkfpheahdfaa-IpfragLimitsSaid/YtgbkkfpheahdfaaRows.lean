/-
  No cell of these rows narrows 'for every input' (looked for: loops, veiled, ifaces, maps, wideKeys, modest, calm, conditions, laid).
  DERIVED. THE GIVEN ROWS OF THIS SEAT. 15 by the template 'for every input the law returns true; each argument reads behind the call as it read before'; 0 by the template 'total and deterministic' (their statements: YtgbkkfpheahdfaaTotals.lean).
  GIVEN WITH THE SEED: the statements are not yours to turn. If you find one false, say at which input.
  Laid BY PROGRAM, IN A SANDBOX (cutbox-rows.mjs): the forced cells as the released guide's own fill.sh prints them over the translation b58bb17ee09a1cf7… (all of the seat's roots in one cut). By AI agents, Wed Nov 11 2026. No macro, syntax, notation, axiom, sorry.
-/
import Derived.Test.YtgbkkfpheahdfaaChecked
import GoSem.Claim
import GoSem.ClaimJoined
import GoSem.ClaimMapViews
import Derived.JoinedTies
import Derived.KernelRfl
namespace Go.Proofs.Ytgbkkfpheahdfaa
/- THE CELL 'sum', in the pinned program and in every row, IS THE sha256 OF THE DUMP (.gsa) THAT YtgbkkfpheahdfaaProg.lean LOADS. Nothing in Lean hashes anything: it is a label: what it is worth is what the hold of that sum in a sandbox is worth. -/
noncomputable def Try.pinned : Pinned := { name := "ytgbkkfpheahdfaa", sum := "b58bb17ee09a1cf793899614bf8b45a0423456839365869f295bd51a6112120f", checked := Try.checked }
namespace Rows
def none {H : Type} : Left H := { results := [], args := [] }

/-- 'ipsecgatelaw25.IpfragSplits': WHATEVER THE INPUT: true; the input reads as it did. -/
def ipfragSplitsSpec : ChangeSpec := { name := "ipfragSplits", fn := fun _ => fun
  | [d1, d2, d3, d4] => { results := [.lit (.bool true)], args := [d1, d2, d3, d4] }
  | _ => none }
def ipfragSplitsRow : OpenClaim := { program := "ytgbkkfpheahdfaa", sum := "b58bb17ee09a1cf793899614bf8b45a0423456839365869f295bd51a6112120f", func := "ipsecgate/ipsecgatelaw25.IpfragSplits", spec := "ipfragSplits", apart := false }
def IpfragSplitsSaid : Prop := ipfragSplitsRow.holds Try.pinned (OpenSpec.ofChange ipfragSplitsSpec)

/-- ITS FALSE NEIGHBOUR: 'it returns false'. Refute it at one input. -/
def ipfragSplitsWrong : ChangeSpec := { name := "ipfragSplits", fn := fun _ => fun
  | [d1, d2, d3, d4] => { results := [.lit (.bool false)], args := [d1, d2, d3, d4] }
  | _ => none }
def IpfragSplitsWrongFalsely : Prop := ipfragSplitsRow.holds Try.pinned (OpenSpec.ofChange ipfragSplitsWrong)

/-- 'ipsecgatelaw20.DecorrelateCounts': WHATEVER THE INPUT: true; the input reads as it did. -/
def decorrelateCountsSpec : ChangeSpec := { name := "decorrelateCounts", fn := fun _ => fun
  | [d] => { results := [.lit (.bool true)], args := [d] }
  | _ => none }
def decorrelateCountsRow : OpenClaim := { program := "ytgbkkfpheahdfaa", sum := "b58bb17ee09a1cf793899614bf8b45a0423456839365869f295bd51a6112120f", func := "ipsecgate/ipsecgatelaw20.DecorrelateCounts", spec := "decorrelateCounts", apart := false }
def DecorrelateCountsSaid : Prop := decorrelateCountsRow.holds Try.pinned (OpenSpec.ofChange decorrelateCountsSpec)

/-- ITS FALSE NEIGHBOUR: 'it returns false'. Refute it at one input. -/
def decorrelateCountsWrong : ChangeSpec := { name := "decorrelateCounts", fn := fun _ => fun
  | [d] => { results := [.lit (.bool false)], args := [d] }
  | _ => none }
def DecorrelateCountsWrongFalsely : Prop := decorrelateCountsRow.holds Try.pinned (OpenSpec.ofChange decorrelateCountsWrong)

/-- 'ipsecgatelaw22.LookupHides': WHATEVER THE INPUT: true; the input reads as it did. -/
def lookupHidesSpec : ChangeSpec := { name := "lookupHides", fn := fun _ => fun
  | [d1, d2, d3] => { results := [.lit (.bool true)], args := [d1, d2, d3] }
  | _ => none }
def lookupHidesRow : OpenClaim := { program := "ytgbkkfpheahdfaa", sum := "b58bb17ee09a1cf793899614bf8b45a0423456839365869f295bd51a6112120f", func := "ipsecgate/ipsecgatelaw22.LookupHides", spec := "lookupHides", apart := false }
def LookupHidesSaid : Prop := lookupHidesRow.holds Try.pinned (OpenSpec.ofChange lookupHidesSpec)

/-- ITS FALSE NEIGHBOUR: 'it returns false'. Refute it at one input. -/
def lookupHidesWrong : ChangeSpec := { name := "lookupHides", fn := fun _ => fun
  | [d1, d2, d3] => { results := [.lit (.bool false)], args := [d1, d2, d3] }
  | _ => none }
def LookupHidesWrongFalsely : Prop := lookupHidesRow.holds Try.pinned (OpenSpec.ofChange lookupHidesWrong)

/-- 'ipsecgatelaw22.LookupTurns': WHATEVER THE INPUT: true; the input reads as it did. -/
def lookupTurnsSpec : ChangeSpec := { name := "lookupTurns", fn := fun _ => fun
  | [d1, d2] => { results := [.lit (.bool true)], args := [d1, d2] }
  | _ => none }
def lookupTurnsRow : OpenClaim := { program := "ytgbkkfpheahdfaa", sum := "b58bb17ee09a1cf793899614bf8b45a0423456839365869f295bd51a6112120f", func := "ipsecgate/ipsecgatelaw22.LookupTurns", spec := "lookupTurns", apart := false }
def LookupTurnsSaid : Prop := lookupTurnsRow.holds Try.pinned (OpenSpec.ofChange lookupTurnsSpec)

/-- ITS FALSE NEIGHBOUR: 'it returns false'. Refute it at one input. -/
def lookupTurnsWrong : ChangeSpec := { name := "lookupTurns", fn := fun _ => fun
  | [d1, d2] => { results := [.lit (.bool false)], args := [d1, d2] }
  | _ => none }
def LookupTurnsWrongFalsely : Prop := lookupTurnsRow.holds Try.pinned (OpenSpec.ofChange lookupTurnsWrong)

/-- 'ipsecgatelaw22.LookupDecides': WHATEVER THE INPUT: true; the input reads as it did. -/
def lookupDecidesSpec : ChangeSpec := { name := "lookupDecides", fn := fun _ => fun
  | [d1, d2, d3] => { results := [.lit (.bool true)], args := [d1, d2, d3] }
  | _ => none }
def lookupDecidesRow : OpenClaim := { program := "ytgbkkfpheahdfaa", sum := "b58bb17ee09a1cf793899614bf8b45a0423456839365869f295bd51a6112120f", func := "ipsecgate/ipsecgatelaw22.LookupDecides", spec := "lookupDecides", apart := false }
def LookupDecidesSaid : Prop := lookupDecidesRow.holds Try.pinned (OpenSpec.ofChange lookupDecidesSpec)

/-- ITS FALSE NEIGHBOUR: 'it returns false'. Refute it at one input. -/
def lookupDecidesWrong : ChangeSpec := { name := "lookupDecides", fn := fun _ => fun
  | [d1, d2, d3] => { results := [.lit (.bool false)], args := [d1, d2, d3] }
  | _ => none }
def LookupDecidesWrongFalsely : Prop := lookupDecidesRow.holds Try.pinned (OpenSpec.ofChange lookupDecidesWrong)

/-- 'ipsecgatelaw20.DecorrelateBoxes': WHATEVER THE INPUT: true; the input reads as it did. -/
def decorrelateBoxesSpec : ChangeSpec := { name := "decorrelateBoxes", fn := fun _ => fun
  | [d1, d2] => { results := [.lit (.bool true)], args := [d1, d2] }
  | _ => none }
def decorrelateBoxesRow : OpenClaim := { program := "ytgbkkfpheahdfaa", sum := "b58bb17ee09a1cf793899614bf8b45a0423456839365869f295bd51a6112120f", func := "ipsecgate/ipsecgatelaw20.DecorrelateBoxes", spec := "decorrelateBoxes", apart := false }
def DecorrelateBoxesSaid : Prop := decorrelateBoxesRow.holds Try.pinned (OpenSpec.ofChange decorrelateBoxesSpec)

/-- ITS FALSE NEIGHBOUR: 'it returns false'. Refute it at one input. -/
def decorrelateBoxesWrong : ChangeSpec := { name := "decorrelateBoxes", fn := fun _ => fun
  | [d1, d2] => { results := [.lit (.bool false)], args := [d1, d2] }
  | _ => none }
def DecorrelateBoxesWrongFalsely : Prop := decorrelateBoxesRow.holds Try.pinned (OpenSpec.ofChange decorrelateBoxesWrong)

/-- 'ipsecgatelaw20.DecorrelatePieces': WHATEVER THE INPUT: true; the input reads as it did. -/
def decorrelatePiecesSpec : ChangeSpec := { name := "decorrelatePieces", fn := fun _ => fun
  | [d1, d2] => { results := [.lit (.bool true)], args := [d1, d2] }
  | _ => none }
def decorrelatePiecesRow : OpenClaim := { program := "ytgbkkfpheahdfaa", sum := "b58bb17ee09a1cf793899614bf8b45a0423456839365869f295bd51a6112120f", func := "ipsecgate/ipsecgatelaw20.DecorrelatePieces", spec := "decorrelatePieces", apart := false }
def DecorrelatePiecesSaid : Prop := decorrelatePiecesRow.holds Try.pinned (OpenSpec.ofChange decorrelatePiecesSpec)

/-- ITS FALSE NEIGHBOUR: 'it returns false'. Refute it at one input. -/
def decorrelatePiecesWrong : ChangeSpec := { name := "decorrelatePieces", fn := fun _ => fun
  | [d1, d2] => { results := [.lit (.bool false)], args := [d1, d2] }
  | _ => none }
def DecorrelatePiecesWrongFalsely : Prop := decorrelatePiecesRow.holds Try.pinned (OpenSpec.ofChange decorrelatePiecesWrong)

/-- 'ipsecgatelaw22.LookupBuilds': WHATEVER THE INPUT: true; the input reads as it did. -/
def lookupBuildsSpec : ChangeSpec := { name := "lookupBuilds", fn := fun _ => fun
  | [d1, d2, d3] => { results := [.lit (.bool true)], args := [d1, d2, d3] }
  | _ => none }
def lookupBuildsRow : OpenClaim := { program := "ytgbkkfpheahdfaa", sum := "b58bb17ee09a1cf793899614bf8b45a0423456839365869f295bd51a6112120f", func := "ipsecgate/ipsecgatelaw22.LookupBuilds", spec := "lookupBuilds", apart := false }
def LookupBuildsSaid : Prop := lookupBuildsRow.holds Try.pinned (OpenSpec.ofChange lookupBuildsSpec)

/-- ITS FALSE NEIGHBOUR: 'it returns false'. Refute it at one input. -/
def lookupBuildsWrong : ChangeSpec := { name := "lookupBuilds", fn := fun _ => fun
  | [d1, d2, d3] => { results := [.lit (.bool false)], args := [d1, d2, d3] }
  | _ => none }
def LookupBuildsWrongFalsely : Prop := lookupBuildsRow.holds Try.pinned (OpenSpec.ofChange lookupBuildsWrong)

/-- 'ipsecgatelaw20.DecorrelateOrders': WHATEVER THE INPUT: true; the input reads as it did. -/
def decorrelateOrdersSpec : ChangeSpec := { name := "decorrelateOrders", fn := fun _ => fun
  | [d1, d2] => { results := [.lit (.bool true)], args := [d1, d2] }
  | _ => none }
def decorrelateOrdersRow : OpenClaim := { program := "ytgbkkfpheahdfaa", sum := "b58bb17ee09a1cf793899614bf8b45a0423456839365869f295bd51a6112120f", func := "ipsecgate/ipsecgatelaw20.DecorrelateOrders", spec := "decorrelateOrders", unfollowed := true, recurses := true, apart := false }
def DecorrelateOrdersSaid : Prop := decorrelateOrdersRow.holds Try.pinned (OpenSpec.ofChange decorrelateOrdersSpec)

/-- ITS FALSE NEIGHBOUR: 'it returns false'. Refute it at one input. -/
def decorrelateOrdersWrong : ChangeSpec := { name := "decorrelateOrders", fn := fun _ => fun
  | [d1, d2] => { results := [.lit (.bool false)], args := [d1, d2] }
  | _ => none }
def DecorrelateOrdersWrongFalsely : Prop := decorrelateOrdersRow.holds Try.pinned (OpenSpec.ofChange decorrelateOrdersWrong)

/-- 'ipsecgatelaw20.DecorrelateAgrees': WHATEVER THE INPUT: true; the input reads as it did. -/
def decorrelateAgreesSpec : ChangeSpec := { name := "decorrelateAgrees", fn := fun _ => fun
  | [d1, d2, d3] => { results := [.lit (.bool true)], args := [d1, d2, d3] }
  | _ => none }
def decorrelateAgreesRow : OpenClaim := { program := "ytgbkkfpheahdfaa", sum := "b58bb17ee09a1cf793899614bf8b45a0423456839365869f295bd51a6112120f", func := "ipsecgate/ipsecgatelaw20.DecorrelateAgrees", spec := "decorrelateAgrees", unfollowed := true, recurses := true, apart := false }
def DecorrelateAgreesSaid : Prop := decorrelateAgreesRow.holds Try.pinned (OpenSpec.ofChange decorrelateAgreesSpec)

/-- ITS FALSE NEIGHBOUR: 'it returns false'. Refute it at one input. -/
def decorrelateAgreesWrong : ChangeSpec := { name := "decorrelateAgrees", fn := fun _ => fun
  | [d1, d2, d3] => { results := [.lit (.bool false)], args := [d1, d2, d3] }
  | _ => none }
def DecorrelateAgreesWrongFalsely : Prop := decorrelateAgreesRow.holds Try.pinned (OpenSpec.ofChange decorrelateAgreesWrong)

/-- 'ipsecgatelaw22.LookupSees': WHATEVER THE INPUT: true; the input reads as it did. -/
def lookupSeesSpec : ChangeSpec := { name := "lookupSees", fn := fun _ => fun
  | [d1, d2] => { results := [.lit (.bool true)], args := [d1, d2] }
  | _ => none }
def lookupSeesRow : OpenClaim := { program := "ytgbkkfpheahdfaa", sum := "b58bb17ee09a1cf793899614bf8b45a0423456839365869f295bd51a6112120f", func := "ipsecgate/ipsecgatelaw22.LookupSees", spec := "lookupSees", unfollowed := true, recurses := true, apart := false }
def LookupSeesSaid : Prop := lookupSeesRow.holds Try.pinned (OpenSpec.ofChange lookupSeesSpec)

/-- ITS FALSE NEIGHBOUR: 'it returns false'. Refute it at one input. -/
def lookupSeesWrong : ChangeSpec := { name := "lookupSees", fn := fun _ => fun
  | [d1, d2] => { results := [.lit (.bool false)], args := [d1, d2] }
  | _ => none }
def LookupSeesWrongFalsely : Prop := lookupSeesRow.holds Try.pinned (OpenSpec.ofChange lookupSeesWrong)

/-- 'ipsecgatelaw25.IpfragLimits': WHATEVER THE INPUT: true; the input reads as it did. -/
def ipfragLimitsSpec : ChangeSpec := { name := "ipfragLimits", fn := fun _ => fun
  | [d] => { results := [.lit (.bool true)], args := [d] }
  | _ => none }
def ipfragLimitsRow : OpenClaim := { program := "ytgbkkfpheahdfaa", sum := "b58bb17ee09a1cf793899614bf8b45a0423456839365869f295bd51a6112120f", func := "ipsecgate/ipsecgatelaw25.IpfragLimits", spec := "ipfragLimits", inPlace := ["slices.overlaps[ipsecgate/api.Piece]"], unfollowed := true, recurses := true, apart := false }
def IpfragLimitsSaid : Prop := ipfragLimitsRow.holds Try.pinned (OpenSpec.ofChange ipfragLimitsSpec)

/-- ITS FALSE NEIGHBOUR: 'it returns false'. Refute it at one input. -/
def ipfragLimitsWrong : ChangeSpec := { name := "ipfragLimits", fn := fun _ => fun
  | [d] => { results := [.lit (.bool false)], args := [d] }
  | _ => none }
def IpfragLimitsWrongFalsely : Prop := ipfragLimitsRow.holds Try.pinned (OpenSpec.ofChange ipfragLimitsWrong)

/-- 'ipsecgatelaw22.LookupEntries': WHATEVER THE INPUT: true; the input reads as it did. -/
def lookupEntriesSpec : ChangeSpec := { name := "lookupEntries", fn := fun _ => fun
  | [d1, d2, d3] => { results := [.lit (.bool true)], args := [d1, d2, d3] }
  | _ => none }
def lookupEntriesRow : OpenClaim := { program := "ytgbkkfpheahdfaa", sum := "b58bb17ee09a1cf793899614bf8b45a0423456839365869f295bd51a6112120f", func := "ipsecgate/ipsecgatelaw22.LookupEntries", spec := "lookupEntries", unfollowed := true, recurses := true, apart := false }
def LookupEntriesSaid : Prop := lookupEntriesRow.holds Try.pinned (OpenSpec.ofChange lookupEntriesSpec)

/-- ITS FALSE NEIGHBOUR: 'it returns false'. Refute it at one input. -/
def lookupEntriesWrong : ChangeSpec := { name := "lookupEntries", fn := fun _ => fun
  | [d1, d2, d3] => { results := [.lit (.bool false)], args := [d1, d2, d3] }
  | _ => none }
def LookupEntriesWrongFalsely : Prop := lookupEntriesRow.holds Try.pinned (OpenSpec.ofChange lookupEntriesWrong)

/-- 'ipsecgatelaw20.DecorrelateLists': WHATEVER THE INPUT: true; the input reads as it did. -/
def decorrelateListsSpec : ChangeSpec := { name := "decorrelateLists", fn := fun _ => fun
  | [d1, d2] => { results := [.lit (.bool true)], args := [d1, d2] }
  | _ => none }
def decorrelateListsRow : OpenClaim := { program := "ytgbkkfpheahdfaa", sum := "b58bb17ee09a1cf793899614bf8b45a0423456839365869f295bd51a6112120f", func := "ipsecgate/ipsecgatelaw20.DecorrelateLists", spec := "decorrelateLists", inPlace := ["math/bits.Add64"], unfollowed := true, recurses := true, apart := false }
def DecorrelateListsSaid : Prop := decorrelateListsRow.holds Try.pinned (OpenSpec.ofChange decorrelateListsSpec)

/-- ITS FALSE NEIGHBOUR: 'it returns false'. Refute it at one input. -/
def decorrelateListsWrong : ChangeSpec := { name := "decorrelateLists", fn := fun _ => fun
  | [d1, d2] => { results := [.lit (.bool false)], args := [d1, d2] }
  | _ => none }
def DecorrelateListsWrongFalsely : Prop := decorrelateListsRow.holds Try.pinned (OpenSpec.ofChange decorrelateListsWrong)

/-- 'ipsecgatelaw22.LookupReturns': WHATEVER THE INPUT: true; the input reads as it did. -/
def lookupReturnsSpec : ChangeSpec := { name := "lookupReturns", fn := fun _ => fun
  | [d] => { results := [.lit (.bool true)], args := [d] }
  | _ => none }
def lookupReturnsRow : OpenClaim := { program := "ytgbkkfpheahdfaa", sum := "b58bb17ee09a1cf793899614bf8b45a0423456839365869f295bd51a6112120f", func := "ipsecgate/ipsecgatelaw22.LookupReturns", spec := "lookupReturns", unfollowed := true, recurses := true, apart := false }
def LookupReturnsSaid : Prop := lookupReturnsRow.holds Try.pinned (OpenSpec.ofChange lookupReturnsSpec)

/-- ITS FALSE NEIGHBOUR: 'it returns false'. Refute it at one input. -/
def lookupReturnsWrong : ChangeSpec := { name := "lookupReturns", fn := fun _ => fun
  | [d] => { results := [.lit (.bool false)], args := [d] }
  | _ => none }
def LookupReturnsWrongFalsely : Prop := lookupReturnsRow.holds Try.pinned (OpenSpec.ofChange lookupReturnsWrong)

/- THE SECOND FORM. 'bulk': how many values and letters a reading holds, each counted each time it is reached (what is shared counts as often as it is met; a slice's spare places count too). A statement '..UptoSaid' is the law's where the arguments, and the package variables that the reading takes, are together of bulk at most 1048576: NARROWER than '..Said'. Prove '..Said' where nothing that the law and all that it calls make is longer than what came in: it says more and counts as full. Else prove '..UptoSaid'. A law counts once. -/
mutual
def uptoBulk {H : Type} : DataW H → Nat
  | .lit (.string bytes) => bytes.length + 1
  | .lit _ => 1
  | .nil => 1
  | .ptr d => uptoBulk d + 1
  | .slice elems spare => uptoBulkAll elems + uptoBulkAll spare + 1
  | .agg parts => uptoBulkAll parts + 1
  | .iface _ d => uptoBulk d + 1
  | .map entries => uptoBulkEntries entries + 1
  | .held _ => 1
def uptoBulkAll {H : Type} : List (DataW H) → Nat
  | [] => 0
  | d :: r => uptoBulk d + uptoBulkAll r
def uptoBulkEntries {H : Type} : List (Lit × DataW H) → Nat
  | [] => 0
  | x :: r => uptoBulkEntry x + uptoBulkEntries r
def uptoBulkEntry {H : Type} : Lit × DataW H → Nat
  | (.string bytes, d) => bytes.length + uptoBulk d + 1
  | (_, d) => uptoBulk d + 1
 end
def uptoSmall : (H : Type) → List (DataW H) → Bool := fun _ ds => decide (uptoBulkAll ds ≤ 1048576)
def OpenSpec.upto (s : _root_.Go.ChangeSpec) : _root_.Go.OpenSpec := { _root_.Go.OpenSpec.ofChange s with cond := some uptoSmall }

/-- 'ipsecgatelaw25.IpfragSplits', WHERE WHAT IT READS IS OF BULK AT MOST 1048576: true; the input reads as it did. -/
def ipfragSplitsUptoRow : OpenClaim := { program := "ytgbkkfpheahdfaa", sum := "b58bb17ee09a1cf793899614bf8b45a0423456839365869f295bd51a6112120f", func := "ipsecgate/ipsecgatelaw25.IpfragSplits", spec := "ipfragSplits", apart := false, narrowed := true }
def IpfragSplitsUptoSaid : Prop := ipfragSplitsUptoRow.holds Try.pinned (OpenSpec.upto ipfragSplitsSpec)

/-- 'ipsecgatelaw20.DecorrelateCounts', WHERE WHAT IT READS IS OF BULK AT MOST 1048576: true; the input reads as it did. -/
def decorrelateCountsUptoRow : OpenClaim := { program := "ytgbkkfpheahdfaa", sum := "b58bb17ee09a1cf793899614bf8b45a0423456839365869f295bd51a6112120f", func := "ipsecgate/ipsecgatelaw20.DecorrelateCounts", spec := "decorrelateCounts", apart := false, narrowed := true }
def DecorrelateCountsUptoSaid : Prop := decorrelateCountsUptoRow.holds Try.pinned (OpenSpec.upto decorrelateCountsSpec)

/-- 'ipsecgatelaw22.LookupHides', WHERE WHAT IT READS IS OF BULK AT MOST 1048576: true; the input reads as it did. -/
def lookupHidesUptoRow : OpenClaim := { program := "ytgbkkfpheahdfaa", sum := "b58bb17ee09a1cf793899614bf8b45a0423456839365869f295bd51a6112120f", func := "ipsecgate/ipsecgatelaw22.LookupHides", spec := "lookupHides", apart := false, narrowed := true }
def LookupHidesUptoSaid : Prop := lookupHidesUptoRow.holds Try.pinned (OpenSpec.upto lookupHidesSpec)

/-- 'ipsecgatelaw22.LookupTurns', WHERE WHAT IT READS IS OF BULK AT MOST 1048576: true; the input reads as it did. -/
def lookupTurnsUptoRow : OpenClaim := { program := "ytgbkkfpheahdfaa", sum := "b58bb17ee09a1cf793899614bf8b45a0423456839365869f295bd51a6112120f", func := "ipsecgate/ipsecgatelaw22.LookupTurns", spec := "lookupTurns", apart := false, narrowed := true }
def LookupTurnsUptoSaid : Prop := lookupTurnsUptoRow.holds Try.pinned (OpenSpec.upto lookupTurnsSpec)

/-- 'ipsecgatelaw22.LookupDecides', WHERE WHAT IT READS IS OF BULK AT MOST 1048576: true; the input reads as it did. -/
def lookupDecidesUptoRow : OpenClaim := { program := "ytgbkkfpheahdfaa", sum := "b58bb17ee09a1cf793899614bf8b45a0423456839365869f295bd51a6112120f", func := "ipsecgate/ipsecgatelaw22.LookupDecides", spec := "lookupDecides", apart := false, narrowed := true }
def LookupDecidesUptoSaid : Prop := lookupDecidesUptoRow.holds Try.pinned (OpenSpec.upto lookupDecidesSpec)

/-- 'ipsecgatelaw20.DecorrelateBoxes', WHERE WHAT IT READS IS OF BULK AT MOST 1048576: true; the input reads as it did. -/
def decorrelateBoxesUptoRow : OpenClaim := { program := "ytgbkkfpheahdfaa", sum := "b58bb17ee09a1cf793899614bf8b45a0423456839365869f295bd51a6112120f", func := "ipsecgate/ipsecgatelaw20.DecorrelateBoxes", spec := "decorrelateBoxes", apart := false, narrowed := true }
def DecorrelateBoxesUptoSaid : Prop := decorrelateBoxesUptoRow.holds Try.pinned (OpenSpec.upto decorrelateBoxesSpec)

/-- 'ipsecgatelaw20.DecorrelatePieces', WHERE WHAT IT READS IS OF BULK AT MOST 1048576: true; the input reads as it did. -/
def decorrelatePiecesUptoRow : OpenClaim := { program := "ytgbkkfpheahdfaa", sum := "b58bb17ee09a1cf793899614bf8b45a0423456839365869f295bd51a6112120f", func := "ipsecgate/ipsecgatelaw20.DecorrelatePieces", spec := "decorrelatePieces", apart := false, narrowed := true }
def DecorrelatePiecesUptoSaid : Prop := decorrelatePiecesUptoRow.holds Try.pinned (OpenSpec.upto decorrelatePiecesSpec)

/-- 'ipsecgatelaw22.LookupBuilds', WHERE WHAT IT READS IS OF BULK AT MOST 1048576: true; the input reads as it did. -/
def lookupBuildsUptoRow : OpenClaim := { program := "ytgbkkfpheahdfaa", sum := "b58bb17ee09a1cf793899614bf8b45a0423456839365869f295bd51a6112120f", func := "ipsecgate/ipsecgatelaw22.LookupBuilds", spec := "lookupBuilds", apart := false, narrowed := true }
def LookupBuildsUptoSaid : Prop := lookupBuildsUptoRow.holds Try.pinned (OpenSpec.upto lookupBuildsSpec)

/-- 'ipsecgatelaw20.DecorrelateOrders', WHERE WHAT IT READS IS OF BULK AT MOST 1048576: true; the input reads as it did. -/
def decorrelateOrdersUptoRow : OpenClaim := { program := "ytgbkkfpheahdfaa", sum := "b58bb17ee09a1cf793899614bf8b45a0423456839365869f295bd51a6112120f", func := "ipsecgate/ipsecgatelaw20.DecorrelateOrders", spec := "decorrelateOrders", unfollowed := true, recurses := true, apart := false, narrowed := true }
def DecorrelateOrdersUptoSaid : Prop := decorrelateOrdersUptoRow.holds Try.pinned (OpenSpec.upto decorrelateOrdersSpec)

/-- 'ipsecgatelaw20.DecorrelateAgrees', WHERE WHAT IT READS IS OF BULK AT MOST 1048576: true; the input reads as it did. -/
def decorrelateAgreesUptoRow : OpenClaim := { program := "ytgbkkfpheahdfaa", sum := "b58bb17ee09a1cf793899614bf8b45a0423456839365869f295bd51a6112120f", func := "ipsecgate/ipsecgatelaw20.DecorrelateAgrees", spec := "decorrelateAgrees", unfollowed := true, recurses := true, apart := false, narrowed := true }
def DecorrelateAgreesUptoSaid : Prop := decorrelateAgreesUptoRow.holds Try.pinned (OpenSpec.upto decorrelateAgreesSpec)

/-- 'ipsecgatelaw22.LookupSees', WHERE WHAT IT READS IS OF BULK AT MOST 1048576: true; the input reads as it did. -/
def lookupSeesUptoRow : OpenClaim := { program := "ytgbkkfpheahdfaa", sum := "b58bb17ee09a1cf793899614bf8b45a0423456839365869f295bd51a6112120f", func := "ipsecgate/ipsecgatelaw22.LookupSees", spec := "lookupSees", unfollowed := true, recurses := true, apart := false, narrowed := true }
def LookupSeesUptoSaid : Prop := lookupSeesUptoRow.holds Try.pinned (OpenSpec.upto lookupSeesSpec)

/-- 'ipsecgatelaw25.IpfragLimits', WHERE WHAT IT READS IS OF BULK AT MOST 1048576: true; the input reads as it did. -/
def ipfragLimitsUptoRow : OpenClaim := { program := "ytgbkkfpheahdfaa", sum := "b58bb17ee09a1cf793899614bf8b45a0423456839365869f295bd51a6112120f", func := "ipsecgate/ipsecgatelaw25.IpfragLimits", spec := "ipfragLimits", inPlace := ["slices.overlaps[ipsecgate/api.Piece]"], unfollowed := true, recurses := true, apart := false, narrowed := true }
def IpfragLimitsUptoSaid : Prop := ipfragLimitsUptoRow.holds Try.pinned (OpenSpec.upto ipfragLimitsSpec)

/-- 'ipsecgatelaw22.LookupEntries', WHERE WHAT IT READS IS OF BULK AT MOST 1048576: true; the input reads as it did. -/
def lookupEntriesUptoRow : OpenClaim := { program := "ytgbkkfpheahdfaa", sum := "b58bb17ee09a1cf793899614bf8b45a0423456839365869f295bd51a6112120f", func := "ipsecgate/ipsecgatelaw22.LookupEntries", spec := "lookupEntries", unfollowed := true, recurses := true, apart := false, narrowed := true }
def LookupEntriesUptoSaid : Prop := lookupEntriesUptoRow.holds Try.pinned (OpenSpec.upto lookupEntriesSpec)

/-- 'ipsecgatelaw20.DecorrelateLists', WHERE WHAT IT READS IS OF BULK AT MOST 1048576: true; the input reads as it did. -/
def decorrelateListsUptoRow : OpenClaim := { program := "ytgbkkfpheahdfaa", sum := "b58bb17ee09a1cf793899614bf8b45a0423456839365869f295bd51a6112120f", func := "ipsecgate/ipsecgatelaw20.DecorrelateLists", spec := "decorrelateLists", inPlace := ["math/bits.Add64"], unfollowed := true, recurses := true, apart := false, narrowed := true }
def DecorrelateListsUptoSaid : Prop := decorrelateListsUptoRow.holds Try.pinned (OpenSpec.upto decorrelateListsSpec)

/-- 'ipsecgatelaw22.LookupReturns', WHERE WHAT IT READS IS OF BULK AT MOST 1048576: true; the input reads as it did. -/
def lookupReturnsUptoRow : OpenClaim := { program := "ytgbkkfpheahdfaa", sum := "b58bb17ee09a1cf793899614bf8b45a0423456839365869f295bd51a6112120f", func := "ipsecgate/ipsecgatelaw22.LookupReturns", spec := "lookupReturns", unfollowed := true, recurses := true, apart := false, narrowed := true }
def LookupReturnsUptoSaid : Prop := lookupReturnsUptoRow.holds Try.pinned (OpenSpec.upto lookupReturnsSpec)

end Rows
end Go.Proofs.Ytgbkkfpheahdfaa
