/-
  NARROWER THAN 'FOR EVERY INPUT', by the rows' own cells (each row's printed sentence says how): SchnorrSigns: laid · EspSeals: laid · EspOpens: laid · EspPads: laid · SchnorrAccepts: laid · SchnorrChains: laid · SealedJoins: laid · SealedOpens: laid · SealedWrites: laid · EspCarries: laid · SealedTotals: laid · SealedReturns: laid.
  DERIVED. THE GIVEN ROWS OF THIS SEAT. 12 by the template 'for every input the law returns true; each argument reads behind the call as it read before'; 0 by the template 'total and deterministic' (their statements: YtofajgidjkjnpaaDoorTotals.lean).
  GIVEN WITH THE SEED: the statements are not yours to turn. If you find one false, say at which input.
  Laid BY PROGRAM, IN A SANDBOX (cutbox-rows.mjs): the forced cells as the released guide's own fill.sh prints them over the translation fe935113e8fd8fe0… (all of the seat's roots in one cut). By AI agents, Wed Nov 11 2026. No macro, syntax, notation, axiom, sorry.
-/
import Derived.Test.YtofajgidjkjnpaaDoorChecked
import GoSem.Claim
import GoSem.ClaimJoined
import GoSem.ClaimMapViews
import Derived.JoinedTies
import Derived.KernelRfl
namespace Go.Proofs.YtofajgidjkjnpaaDoor
/- THE CELL 'sum', in the pinned program and in every row, IS THE sha256 OF THE DUMP (.gsa) THAT YtofajgidjkjnpaaDoorProg.lean LOADS. Nothing in Lean hashes anything: it is a label: what it is worth is what the hold of that sum in a sandbox is worth. -/
noncomputable def Tryd.pinned : Pinned := { name := "ytofajgidjkjnpaadoor", sum := "fe935113e8fd8fe09520019bb396b8fa8c54b6fe92c9ba596a38039e3dd6859e", checked := Tryd.checked }
namespace Rows
def none {H : Type} : Left H := { results := [], args := [] }

/- WHAT THE LISTED PACKAGE-LEVEL VARIABLES READ AS WHEN THE CALL BEGINS. Each datum BY PROGRAM (the guide's laid-datum.mjs) off the statement by which the dump's own 'gosem.cut.vars' lays the variable. In a bare row this is a premise. The card (YtofajgidjkjnpaaDoorCards.lean) ties it to the program's text. -/
def laid_ipsecgate_sha256_constants {H : Type} : DataW H := .agg [.lit (.int .u32 1116352408), .lit (.int .u32 1899447441), .lit (.int .u32 3049323471), .lit (.int .u32 3921009573), .lit (.int .u32 961987163), .lit (.int .u32 1508970993), .lit (.int .u32 2453635748), .lit (.int .u32 2870763221), .lit (.int .u32 3624381080), .lit (.int .u32 310598401), .lit (.int .u32 607225278), .lit (.int .u32 1426881987), .lit (.int .u32 1925078388), .lit (.int .u32 2162078206), .lit (.int .u32 2614888103), .lit (.int .u32 3248222580), .lit (.int .u32 3835390401), .lit (.int .u32 4022224774), .lit (.int .u32 264347078), .lit (.int .u32 604807628), .lit (.int .u32 770255983), .lit (.int .u32 1249150122), .lit (.int .u32 1555081692), .lit (.int .u32 1996064986), .lit (.int .u32 2554220882), .lit (.int .u32 2821834349), .lit (.int .u32 2952996808), .lit (.int .u32 3210313671), .lit (.int .u32 3336571891), .lit (.int .u32 3584528711), .lit (.int .u32 113926993), .lit (.int .u32 338241895), .lit (.int .u32 666307205), .lit (.int .u32 773529912), .lit (.int .u32 1294757372), .lit (.int .u32 1396182291), .lit (.int .u32 1695183700), .lit (.int .u32 1986661051), .lit (.int .u32 2177026350), .lit (.int .u32 2456956037), .lit (.int .u32 2730485921), .lit (.int .u32 2820302411), .lit (.int .u32 3259730800), .lit (.int .u32 3345764771), .lit (.int .u32 3516065817), .lit (.int .u32 3600352804), .lit (.int .u32 4094571909), .lit (.int .u32 275423344), .lit (.int .u32 430227734), .lit (.int .u32 506948616), .lit (.int .u32 659060556), .lit (.int .u32 883997877), .lit (.int .u32 958139571), .lit (.int .u32 1322822218), .lit (.int .u32 1537002063), .lit (.int .u32 1747873779), .lit (.int .u32 1955562222), .lit (.int .u32 2024104815), .lit (.int .u32 2227730452), .lit (.int .u32 2361852424), .lit (.int .u32 2428436474), .lit (.int .u32 2756734187), .lit (.int .u32 3204031479), .lit (.int .u32 3329325298)]
def laid_ipsecgate_sha256_initial {H : Type} : DataW H := .agg [.lit (.int .u32 1779033703), .lit (.int .u32 3144134277), .lit (.int .u32 1013904242), .lit (.int .u32 2773480762), .lit (.int .u32 1359893119), .lit (.int .u32 2600822924), .lit (.int .u32 528734635), .lit (.int .u32 1541459225)]
def laid_ipsecgate_chacha_quarters {H : Type} : DataW H := .agg [.agg [.lit (.int .i64 0), .lit (.int .i64 4), .lit (.int .i64 8), .lit (.int .i64 12)], .agg [.lit (.int .i64 1), .lit (.int .i64 5), .lit (.int .i64 9), .lit (.int .i64 13)], .agg [.lit (.int .i64 2), .lit (.int .i64 6), .lit (.int .i64 10), .lit (.int .i64 14)], .agg [.lit (.int .i64 3), .lit (.int .i64 7), .lit (.int .i64 11), .lit (.int .i64 15)], .agg [.lit (.int .i64 0), .lit (.int .i64 5), .lit (.int .i64 10), .lit (.int .i64 15)], .agg [.lit (.int .i64 1), .lit (.int .i64 6), .lit (.int .i64 11), .lit (.int .i64 12)], .agg [.lit (.int .i64 2), .lit (.int .i64 7), .lit (.int .i64 8), .lit (.int .i64 13)], .agg [.lit (.int .i64 3), .lit (.int .i64 4), .lit (.int .i64 9), .lit (.int .i64 14)]]

/-- 'ipsecgatelaw15.SchnorrSigns': WHATEVER THE INPUT: true; the input reads as it did. -/
def schnorrSignsSpec : ChangeSpec := { name := "schnorrSigns", fn := fun _ => fun
  | [d1, d2, d3, d4, d5] => { results := [.lit (.bool true)], args := [d1, d2, d3, d4, d5] }
  | _ => none }
def schnorrSignsRow : OpenClaim := { program := "ytofajgidjkjnpaadoor", sum := "fe935113e8fd8fe09520019bb396b8fa8c54b6fe92c9ba596a38039e3dd6859e", func := "ipsecgate/ipsecgatelaw15.SchnorrSigns", spec := "schnorrSigns", unfollowed := true, recurses := true, named := ["math/bits.divideError", "math/bits.overflowError", "ipsecgate/sha256.initial", "ipsecgate/sha256.constants"], apart := false, laid := [("ipsecgate/sha256.constants", laid_ipsecgate_sha256_constants), ("ipsecgate/sha256.initial", laid_ipsecgate_sha256_initial)] }
def SchnorrSignsSaid : Prop := schnorrSignsRow.holds Tryd.pinned (OpenSpec.ofChange schnorrSignsSpec)

/-- ITS FALSE NEIGHBOUR: 'it returns false'. Refute it at one input. -/
def schnorrSignsWrong : ChangeSpec := { name := "schnorrSigns", fn := fun _ => fun
  | [d1, d2, d3, d4, d5] => { results := [.lit (.bool false)], args := [d1, d2, d3, d4, d5] }
  | _ => none }
def SchnorrSignsWrongFalsely : Prop := schnorrSignsRow.holds Tryd.pinned (OpenSpec.ofChange schnorrSignsWrong)

/-- 'ipsecgatelaw24.EspSeals': WHATEVER THE INPUT: true; the input reads as it did. -/
def espSealsSpec : ChangeSpec := { name := "espSeals", fn := fun _ => fun
  | [d1, d2, d3, d4, d5, d6] => { results := [.lit (.bool true)], args := [d1, d2, d3, d4, d5, d6] }
  | _ => none }
def espSealsRow : OpenClaim := { program := "ytofajgidjkjnpaadoor", sum := "fe935113e8fd8fe09520019bb396b8fa8c54b6fe92c9ba596a38039e3dd6859e", func := "ipsecgate/ipsecgatelaw24.EspSeals", spec := "espSeals", unfollowed := true, recurses := true, named := ["ipsecgate/chacha.quarters"], apart := false, laid := [("ipsecgate/chacha.quarters", laid_ipsecgate_chacha_quarters)] }
def EspSealsSaid : Prop := espSealsRow.holds Tryd.pinned (OpenSpec.ofChange espSealsSpec)

/-- ITS FALSE NEIGHBOUR: 'it returns false'. Refute it at one input. -/
def espSealsWrong : ChangeSpec := { name := "espSeals", fn := fun _ => fun
  | [d1, d2, d3, d4, d5, d6] => { results := [.lit (.bool false)], args := [d1, d2, d3, d4, d5, d6] }
  | _ => none }
def EspSealsWrongFalsely : Prop := espSealsRow.holds Tryd.pinned (OpenSpec.ofChange espSealsWrong)

/-- 'ipsecgatelaw24.EspOpens': WHATEVER THE INPUT: true; the input reads as it did. -/
def espOpensSpec : ChangeSpec := { name := "espOpens", fn := fun _ => fun
  | [d1, d2, d3, d4, d5, d6] => { results := [.lit (.bool true)], args := [d1, d2, d3, d4, d5, d6] }
  | _ => none }
def espOpensRow : OpenClaim := { program := "ytofajgidjkjnpaadoor", sum := "fe935113e8fd8fe09520019bb396b8fa8c54b6fe92c9ba596a38039e3dd6859e", func := "ipsecgate/ipsecgatelaw24.EspOpens", spec := "espOpens", unfollowed := true, recurses := true, named := ["ipsecgate/chacha.quarters"], apart := false, laid := [("ipsecgate/chacha.quarters", laid_ipsecgate_chacha_quarters)] }
def EspOpensSaid : Prop := espOpensRow.holds Tryd.pinned (OpenSpec.ofChange espOpensSpec)

/-- ITS FALSE NEIGHBOUR: 'it returns false'. Refute it at one input. -/
def espOpensWrong : ChangeSpec := { name := "espOpens", fn := fun _ => fun
  | [d1, d2, d3, d4, d5, d6] => { results := [.lit (.bool false)], args := [d1, d2, d3, d4, d5, d6] }
  | _ => none }
def EspOpensWrongFalsely : Prop := espOpensRow.holds Tryd.pinned (OpenSpec.ofChange espOpensWrong)

/-- 'ipsecgatelaw24.EspPads': WHATEVER THE INPUT: true; the input reads as it did. -/
def espPadsSpec : ChangeSpec := { name := "espPads", fn := fun _ => fun
  | [d1, d2, d3] => { results := [.lit (.bool true)], args := [d1, d2, d3] }
  | _ => none }
def espPadsRow : OpenClaim := { program := "ytofajgidjkjnpaadoor", sum := "fe935113e8fd8fe09520019bb396b8fa8c54b6fe92c9ba596a38039e3dd6859e", func := "ipsecgate/ipsecgatelaw24.EspPads", spec := "espPads", unfollowed := true, recurses := true, named := ["ipsecgate/chacha.quarters"], apart := false, laid := [("ipsecgate/chacha.quarters", laid_ipsecgate_chacha_quarters)] }
def EspPadsSaid : Prop := espPadsRow.holds Tryd.pinned (OpenSpec.ofChange espPadsSpec)

/-- ITS FALSE NEIGHBOUR: 'it returns false'. Refute it at one input. -/
def espPadsWrong : ChangeSpec := { name := "espPads", fn := fun _ => fun
  | [d1, d2, d3] => { results := [.lit (.bool false)], args := [d1, d2, d3] }
  | _ => none }
def EspPadsWrongFalsely : Prop := espPadsRow.holds Tryd.pinned (OpenSpec.ofChange espPadsWrong)

/-- 'ipsecgatelaw15.SchnorrAccepts': WHATEVER THE INPUT: true; the input reads as it did. -/
def schnorrAcceptsSpec : ChangeSpec := { name := "schnorrAccepts", fn := fun _ => fun
  | [d1, d2] => { results := [.lit (.bool true)], args := [d1, d2] }
  | _ => none }
def schnorrAcceptsRow : OpenClaim := { program := "ytofajgidjkjnpaadoor", sum := "fe935113e8fd8fe09520019bb396b8fa8c54b6fe92c9ba596a38039e3dd6859e", func := "ipsecgate/ipsecgatelaw15.SchnorrAccepts", spec := "schnorrAccepts", unfollowed := true, recurses := true, named := ["math/bits.divideError", "math/bits.overflowError", "ipsecgate/sha256.initial", "ipsecgate/sha256.constants"], apart := false, laid := [("ipsecgate/sha256.constants", laid_ipsecgate_sha256_constants), ("ipsecgate/sha256.initial", laid_ipsecgate_sha256_initial)] }
def SchnorrAcceptsSaid : Prop := schnorrAcceptsRow.holds Tryd.pinned (OpenSpec.ofChange schnorrAcceptsSpec)

/-- ITS FALSE NEIGHBOUR: 'it returns false'. Refute it at one input. -/
def schnorrAcceptsWrong : ChangeSpec := { name := "schnorrAccepts", fn := fun _ => fun
  | [d1, d2] => { results := [.lit (.bool false)], args := [d1, d2] }
  | _ => none }
def SchnorrAcceptsWrongFalsely : Prop := schnorrAcceptsRow.holds Tryd.pinned (OpenSpec.ofChange schnorrAcceptsWrong)

/-- 'ipsecgatelaw15.SchnorrChains': WHATEVER THE INPUT: true; the input reads as it did. -/
def schnorrChainsSpec : ChangeSpec := { name := "schnorrChains", fn := fun _ => fun
  | [d1, d2, d3] => { results := [.lit (.bool true)], args := [d1, d2, d3] }
  | _ => none }
def schnorrChainsRow : OpenClaim := { program := "ytofajgidjkjnpaadoor", sum := "fe935113e8fd8fe09520019bb396b8fa8c54b6fe92c9ba596a38039e3dd6859e", func := "ipsecgate/ipsecgatelaw15.SchnorrChains", spec := "schnorrChains", unfollowed := true, recurses := true, named := ["math/bits.divideError", "math/bits.overflowError", "ipsecgate/sha256.initial", "ipsecgate/sha256.constants"], apart := false, laid := [("ipsecgate/sha256.constants", laid_ipsecgate_sha256_constants), ("ipsecgate/sha256.initial", laid_ipsecgate_sha256_initial)] }
def SchnorrChainsSaid : Prop := schnorrChainsRow.holds Tryd.pinned (OpenSpec.ofChange schnorrChainsSpec)

/-- ITS FALSE NEIGHBOUR: 'it returns false'. Refute it at one input. -/
def schnorrChainsWrong : ChangeSpec := { name := "schnorrChains", fn := fun _ => fun
  | [d1, d2, d3] => { results := [.lit (.bool false)], args := [d1, d2, d3] }
  | _ => none }
def SchnorrChainsWrongFalsely : Prop := schnorrChainsRow.holds Tryd.pinned (OpenSpec.ofChange schnorrChainsWrong)

/-- 'ipsecgatelaw17.SealedJoins': WHATEVER THE INPUT: true; the input reads as it did. -/
def sealedJoinsSpec : ChangeSpec := { name := "sealedJoins", fn := fun _ => fun
  | [d1, d2, d3] => { results := [.lit (.bool true)], args := [d1, d2, d3] }
  | _ => none }
def sealedJoinsRow : OpenClaim := { program := "ytofajgidjkjnpaadoor", sum := "fe935113e8fd8fe09520019bb396b8fa8c54b6fe92c9ba596a38039e3dd6859e", func := "ipsecgate/ipsecgatelaw17.SealedJoins", spec := "sealedJoins", unfollowed := true, recurses := true, named := ["ipsecgate/chacha.quarters"], apart := false, laid := [("ipsecgate/chacha.quarters", laid_ipsecgate_chacha_quarters)] }
def SealedJoinsSaid : Prop := sealedJoinsRow.holds Tryd.pinned (OpenSpec.ofChange sealedJoinsSpec)

/-- ITS FALSE NEIGHBOUR: 'it returns false'. Refute it at one input. -/
def sealedJoinsWrong : ChangeSpec := { name := "sealedJoins", fn := fun _ => fun
  | [d1, d2, d3] => { results := [.lit (.bool false)], args := [d1, d2, d3] }
  | _ => none }
def SealedJoinsWrongFalsely : Prop := sealedJoinsRow.holds Tryd.pinned (OpenSpec.ofChange sealedJoinsWrong)

/-- 'ipsecgatelaw17.SealedOpens': WHATEVER THE INPUT: true; the input reads as it did. -/
def sealedOpensSpec : ChangeSpec := { name := "sealedOpens", fn := fun _ => fun
  | [d1, d2, d3, d4] => { results := [.lit (.bool true)], args := [d1, d2, d3, d4] }
  | _ => none }
def sealedOpensRow : OpenClaim := { program := "ytofajgidjkjnpaadoor", sum := "fe935113e8fd8fe09520019bb396b8fa8c54b6fe92c9ba596a38039e3dd6859e", func := "ipsecgate/ipsecgatelaw17.SealedOpens", spec := "sealedOpens", unfollowed := true, recurses := true, named := ["ipsecgate/chacha.quarters"], apart := false, laid := [("ipsecgate/chacha.quarters", laid_ipsecgate_chacha_quarters)] }
def SealedOpensSaid : Prop := sealedOpensRow.holds Tryd.pinned (OpenSpec.ofChange sealedOpensSpec)

/-- ITS FALSE NEIGHBOUR: 'it returns false'. Refute it at one input. -/
def sealedOpensWrong : ChangeSpec := { name := "sealedOpens", fn := fun _ => fun
  | [d1, d2, d3, d4] => { results := [.lit (.bool false)], args := [d1, d2, d3, d4] }
  | _ => none }
def SealedOpensWrongFalsely : Prop := sealedOpensRow.holds Tryd.pinned (OpenSpec.ofChange sealedOpensWrong)

/-- 'ipsecgatelaw17.SealedWrites': WHATEVER THE INPUT: true; the input reads as it did. -/
def sealedWritesSpec : ChangeSpec := { name := "sealedWrites", fn := fun _ => fun
  | [d1, d2, d3, d4, d5] => { results := [.lit (.bool true)], args := [d1, d2, d3, d4, d5] }
  | _ => none }
def sealedWritesRow : OpenClaim := { program := "ytofajgidjkjnpaadoor", sum := "fe935113e8fd8fe09520019bb396b8fa8c54b6fe92c9ba596a38039e3dd6859e", func := "ipsecgate/ipsecgatelaw17.SealedWrites", spec := "sealedWrites", unfollowed := true, recurses := true, named := ["ipsecgate/chacha.quarters"], apart := false, laid := [("ipsecgate/chacha.quarters", laid_ipsecgate_chacha_quarters)] }
def SealedWritesSaid : Prop := sealedWritesRow.holds Tryd.pinned (OpenSpec.ofChange sealedWritesSpec)

/-- ITS FALSE NEIGHBOUR: 'it returns false'. Refute it at one input. -/
def sealedWritesWrong : ChangeSpec := { name := "sealedWrites", fn := fun _ => fun
  | [d1, d2, d3, d4, d5] => { results := [.lit (.bool false)], args := [d1, d2, d3, d4, d5] }
  | _ => none }
def SealedWritesWrongFalsely : Prop := sealedWritesRow.holds Tryd.pinned (OpenSpec.ofChange sealedWritesWrong)

/-- 'ipsecgatelaw24.EspCarries': WHATEVER THE INPUT: true; the input reads as it did. -/
def espCarriesSpec : ChangeSpec := { name := "espCarries", fn := fun _ => fun
  | [d1, d2] => { results := [.lit (.bool true)], args := [d1, d2] }
  | _ => none }
def espCarriesRow : OpenClaim := { program := "ytofajgidjkjnpaadoor", sum := "fe935113e8fd8fe09520019bb396b8fa8c54b6fe92c9ba596a38039e3dd6859e", func := "ipsecgate/ipsecgatelaw24.EspCarries", spec := "espCarries", unfollowed := true, recurses := true, named := ["ipsecgate/chacha.quarters"], apart := false, laid := [("ipsecgate/chacha.quarters", laid_ipsecgate_chacha_quarters)] }
def EspCarriesSaid : Prop := espCarriesRow.holds Tryd.pinned (OpenSpec.ofChange espCarriesSpec)

/-- ITS FALSE NEIGHBOUR: 'it returns false'. Refute it at one input. -/
def espCarriesWrong : ChangeSpec := { name := "espCarries", fn := fun _ => fun
  | [d1, d2] => { results := [.lit (.bool false)], args := [d1, d2] }
  | _ => none }
def EspCarriesWrongFalsely : Prop := espCarriesRow.holds Tryd.pinned (OpenSpec.ofChange espCarriesWrong)

/-- 'ipsecgatelaw17.SealedTotals': WHATEVER THE INPUT: true; the input reads as it did. -/
def sealedTotalsSpec : ChangeSpec := { name := "sealedTotals", fn := fun _ => fun
  | [d1, d2] => { results := [.lit (.bool true)], args := [d1, d2] }
  | _ => none }
def sealedTotalsRow : OpenClaim := { program := "ytofajgidjkjnpaadoor", sum := "fe935113e8fd8fe09520019bb396b8fa8c54b6fe92c9ba596a38039e3dd6859e", func := "ipsecgate/ipsecgatelaw17.SealedTotals", spec := "sealedTotals", inPlace := ["slices.overlaps[ipsecgate/api.Fragment]"], unfollowed := true, recurses := true, named := ["ipsecgate/chacha.quarters"], apart := false, laid := [("ipsecgate/chacha.quarters", laid_ipsecgate_chacha_quarters)] }
def SealedTotalsSaid : Prop := sealedTotalsRow.holds Tryd.pinned (OpenSpec.ofChange sealedTotalsSpec)

/-- ITS FALSE NEIGHBOUR: 'it returns false'. Refute it at one input. -/
def sealedTotalsWrong : ChangeSpec := { name := "sealedTotals", fn := fun _ => fun
  | [d1, d2] => { results := [.lit (.bool false)], args := [d1, d2] }
  | _ => none }
def SealedTotalsWrongFalsely : Prop := sealedTotalsRow.holds Tryd.pinned (OpenSpec.ofChange sealedTotalsWrong)

/-- 'ipsecgatelaw17.SealedReturns': WHATEVER THE INPUT: true; the input reads as it did. -/
def sealedReturnsSpec : ChangeSpec := { name := "sealedReturns", fn := fun _ => fun
  | [d1, d2, d3, d4, d5] => { results := [.lit (.bool true)], args := [d1, d2, d3, d4, d5] }
  | _ => none }
def sealedReturnsRow : OpenClaim := { program := "ytofajgidjkjnpaadoor", sum := "fe935113e8fd8fe09520019bb396b8fa8c54b6fe92c9ba596a38039e3dd6859e", func := "ipsecgate/ipsecgatelaw17.SealedReturns", spec := "sealedReturns", inPlace := ["slices.overlaps[ipsecgate/api.Fragment]"], unfollowed := true, recurses := true, named := ["ipsecgate/chacha.quarters"], apart := false, laid := [("ipsecgate/chacha.quarters", laid_ipsecgate_chacha_quarters)] }
def SealedReturnsSaid : Prop := sealedReturnsRow.holds Tryd.pinned (OpenSpec.ofChange sealedReturnsSpec)

/-- ITS FALSE NEIGHBOUR: 'it returns false'. Refute it at one input. -/
def sealedReturnsWrong : ChangeSpec := { name := "sealedReturns", fn := fun _ => fun
  | [d1, d2, d3, d4, d5] => { results := [.lit (.bool false)], args := [d1, d2, d3, d4, d5] }
  | _ => none }
def SealedReturnsWrongFalsely : Prop := sealedReturnsRow.holds Tryd.pinned (OpenSpec.ofChange sealedReturnsWrong)

/- THE SECOND FORM. 'bulk': how many values and letters a reading holds, each counted each time it is reached (what is shared counts as often as it is met; a slice's spare places count too). A statement '..UptoSaid' is the law's where the arguments, and the package variables that the reading takes, are together of bulk at most 1048576: NARROWER than '..Said'. Prove '..Said' where nothing that the law and all that it calls make is longer than what came in: it says more and counts as full. Else prove '..UptoSaid'. A law counts once. -/
mutual
def uptoBulk {H : Type} : DataW H → Nat
  | .lit (.string bytes) => bytes.length + 1
  | .lit _ => 1
  | .nil => 1
  | .ptr d => uptoBulk d + 1
  | .slice elems spare => uptoBulkAll elems + uptoBulkAll spare + 1
  | .agg parts => uptoBulkAll parts + 1
  | .iface _ d => uptoBulk d + 1
  | .map entries => uptoBulkEntries entries + 1
  | .held _ => 1
def uptoBulkAll {H : Type} : List (DataW H) → Nat
  | [] => 0
  | d :: r => uptoBulk d + uptoBulkAll r
def uptoBulkEntries {H : Type} : List (Lit × DataW H) → Nat
  | [] => 0
  | x :: r => uptoBulkEntry x + uptoBulkEntries r
def uptoBulkEntry {H : Type} : Lit × DataW H → Nat
  | (.string bytes, d) => bytes.length + uptoBulk d + 1
  | (_, d) => uptoBulk d + 1
 end
def uptoSmall : (H : Type) → List (DataW H) → Bool := fun _ ds => decide (uptoBulkAll ds ≤ 1048576)
def OpenSpec.upto (s : _root_.Go.ChangeSpec) : _root_.Go.OpenSpec := { _root_.Go.OpenSpec.ofChange s with cond := some uptoSmall }

/-- 'ipsecgatelaw15.SchnorrSigns', WHERE WHAT IT READS IS OF BULK AT MOST 1048576: true; the input reads as it did. -/
def schnorrSignsUptoRow : OpenClaim := { program := "ytofajgidjkjnpaadoor", sum := "fe935113e8fd8fe09520019bb396b8fa8c54b6fe92c9ba596a38039e3dd6859e", func := "ipsecgate/ipsecgatelaw15.SchnorrSigns", spec := "schnorrSigns", unfollowed := true, recurses := true, named := ["math/bits.divideError", "math/bits.overflowError", "ipsecgate/sha256.initial", "ipsecgate/sha256.constants"], apart := false, laid := [("ipsecgate/sha256.constants", laid_ipsecgate_sha256_constants), ("ipsecgate/sha256.initial", laid_ipsecgate_sha256_initial)], narrowed := true }
def SchnorrSignsUptoSaid : Prop := schnorrSignsUptoRow.holds Tryd.pinned (OpenSpec.upto schnorrSignsSpec)

/-- 'ipsecgatelaw24.EspSeals', WHERE WHAT IT READS IS OF BULK AT MOST 1048576: true; the input reads as it did. -/
def espSealsUptoRow : OpenClaim := { program := "ytofajgidjkjnpaadoor", sum := "fe935113e8fd8fe09520019bb396b8fa8c54b6fe92c9ba596a38039e3dd6859e", func := "ipsecgate/ipsecgatelaw24.EspSeals", spec := "espSeals", unfollowed := true, recurses := true, named := ["ipsecgate/chacha.quarters"], apart := false, laid := [("ipsecgate/chacha.quarters", laid_ipsecgate_chacha_quarters)], narrowed := true }
def EspSealsUptoSaid : Prop := espSealsUptoRow.holds Tryd.pinned (OpenSpec.upto espSealsSpec)

/-- 'ipsecgatelaw24.EspOpens', WHERE WHAT IT READS IS OF BULK AT MOST 1048576: true; the input reads as it did. -/
def espOpensUptoRow : OpenClaim := { program := "ytofajgidjkjnpaadoor", sum := "fe935113e8fd8fe09520019bb396b8fa8c54b6fe92c9ba596a38039e3dd6859e", func := "ipsecgate/ipsecgatelaw24.EspOpens", spec := "espOpens", unfollowed := true, recurses := true, named := ["ipsecgate/chacha.quarters"], apart := false, laid := [("ipsecgate/chacha.quarters", laid_ipsecgate_chacha_quarters)], narrowed := true }
def EspOpensUptoSaid : Prop := espOpensUptoRow.holds Tryd.pinned (OpenSpec.upto espOpensSpec)

/-- 'ipsecgatelaw24.EspPads', WHERE WHAT IT READS IS OF BULK AT MOST 1048576: true; the input reads as it did. -/
def espPadsUptoRow : OpenClaim := { program := "ytofajgidjkjnpaadoor", sum := "fe935113e8fd8fe09520019bb396b8fa8c54b6fe92c9ba596a38039e3dd6859e", func := "ipsecgate/ipsecgatelaw24.EspPads", spec := "espPads", unfollowed := true, recurses := true, named := ["ipsecgate/chacha.quarters"], apart := false, laid := [("ipsecgate/chacha.quarters", laid_ipsecgate_chacha_quarters)], narrowed := true }
def EspPadsUptoSaid : Prop := espPadsUptoRow.holds Tryd.pinned (OpenSpec.upto espPadsSpec)

/-- 'ipsecgatelaw15.SchnorrAccepts', WHERE WHAT IT READS IS OF BULK AT MOST 1048576: true; the input reads as it did. -/
def schnorrAcceptsUptoRow : OpenClaim := { program := "ytofajgidjkjnpaadoor", sum := "fe935113e8fd8fe09520019bb396b8fa8c54b6fe92c9ba596a38039e3dd6859e", func := "ipsecgate/ipsecgatelaw15.SchnorrAccepts", spec := "schnorrAccepts", unfollowed := true, recurses := true, named := ["math/bits.divideError", "math/bits.overflowError", "ipsecgate/sha256.initial", "ipsecgate/sha256.constants"], apart := false, laid := [("ipsecgate/sha256.constants", laid_ipsecgate_sha256_constants), ("ipsecgate/sha256.initial", laid_ipsecgate_sha256_initial)], narrowed := true }
def SchnorrAcceptsUptoSaid : Prop := schnorrAcceptsUptoRow.holds Tryd.pinned (OpenSpec.upto schnorrAcceptsSpec)

/-- 'ipsecgatelaw15.SchnorrChains', WHERE WHAT IT READS IS OF BULK AT MOST 1048576: true; the input reads as it did. -/
def schnorrChainsUptoRow : OpenClaim := { program := "ytofajgidjkjnpaadoor", sum := "fe935113e8fd8fe09520019bb396b8fa8c54b6fe92c9ba596a38039e3dd6859e", func := "ipsecgate/ipsecgatelaw15.SchnorrChains", spec := "schnorrChains", unfollowed := true, recurses := true, named := ["math/bits.divideError", "math/bits.overflowError", "ipsecgate/sha256.initial", "ipsecgate/sha256.constants"], apart := false, laid := [("ipsecgate/sha256.constants", laid_ipsecgate_sha256_constants), ("ipsecgate/sha256.initial", laid_ipsecgate_sha256_initial)], narrowed := true }
def SchnorrChainsUptoSaid : Prop := schnorrChainsUptoRow.holds Tryd.pinned (OpenSpec.upto schnorrChainsSpec)

/-- 'ipsecgatelaw17.SealedJoins', WHERE WHAT IT READS IS OF BULK AT MOST 1048576: true; the input reads as it did. -/
def sealedJoinsUptoRow : OpenClaim := { program := "ytofajgidjkjnpaadoor", sum := "fe935113e8fd8fe09520019bb396b8fa8c54b6fe92c9ba596a38039e3dd6859e", func := "ipsecgate/ipsecgatelaw17.SealedJoins", spec := "sealedJoins", unfollowed := true, recurses := true, named := ["ipsecgate/chacha.quarters"], apart := false, laid := [("ipsecgate/chacha.quarters", laid_ipsecgate_chacha_quarters)], narrowed := true }
def SealedJoinsUptoSaid : Prop := sealedJoinsUptoRow.holds Tryd.pinned (OpenSpec.upto sealedJoinsSpec)

/-- 'ipsecgatelaw17.SealedOpens', WHERE WHAT IT READS IS OF BULK AT MOST 1048576: true; the input reads as it did. -/
def sealedOpensUptoRow : OpenClaim := { program := "ytofajgidjkjnpaadoor", sum := "fe935113e8fd8fe09520019bb396b8fa8c54b6fe92c9ba596a38039e3dd6859e", func := "ipsecgate/ipsecgatelaw17.SealedOpens", spec := "sealedOpens", unfollowed := true, recurses := true, named := ["ipsecgate/chacha.quarters"], apart := false, laid := [("ipsecgate/chacha.quarters", laid_ipsecgate_chacha_quarters)], narrowed := true }
def SealedOpensUptoSaid : Prop := sealedOpensUptoRow.holds Tryd.pinned (OpenSpec.upto sealedOpensSpec)

/-- 'ipsecgatelaw17.SealedWrites', WHERE WHAT IT READS IS OF BULK AT MOST 1048576: true; the input reads as it did. -/
def sealedWritesUptoRow : OpenClaim := { program := "ytofajgidjkjnpaadoor", sum := "fe935113e8fd8fe09520019bb396b8fa8c54b6fe92c9ba596a38039e3dd6859e", func := "ipsecgate/ipsecgatelaw17.SealedWrites", spec := "sealedWrites", unfollowed := true, recurses := true, named := ["ipsecgate/chacha.quarters"], apart := false, laid := [("ipsecgate/chacha.quarters", laid_ipsecgate_chacha_quarters)], narrowed := true }
def SealedWritesUptoSaid : Prop := sealedWritesUptoRow.holds Tryd.pinned (OpenSpec.upto sealedWritesSpec)

/-- 'ipsecgatelaw24.EspCarries', WHERE WHAT IT READS IS OF BULK AT MOST 1048576: true; the input reads as it did. -/
def espCarriesUptoRow : OpenClaim := { program := "ytofajgidjkjnpaadoor", sum := "fe935113e8fd8fe09520019bb396b8fa8c54b6fe92c9ba596a38039e3dd6859e", func := "ipsecgate/ipsecgatelaw24.EspCarries", spec := "espCarries", unfollowed := true, recurses := true, named := ["ipsecgate/chacha.quarters"], apart := false, laid := [("ipsecgate/chacha.quarters", laid_ipsecgate_chacha_quarters)], narrowed := true }
def EspCarriesUptoSaid : Prop := espCarriesUptoRow.holds Tryd.pinned (OpenSpec.upto espCarriesSpec)

/-- 'ipsecgatelaw17.SealedTotals', WHERE WHAT IT READS IS OF BULK AT MOST 1048576: true; the input reads as it did. -/
def sealedTotalsUptoRow : OpenClaim := { program := "ytofajgidjkjnpaadoor", sum := "fe935113e8fd8fe09520019bb396b8fa8c54b6fe92c9ba596a38039e3dd6859e", func := "ipsecgate/ipsecgatelaw17.SealedTotals", spec := "sealedTotals", inPlace := ["slices.overlaps[ipsecgate/api.Fragment]"], unfollowed := true, recurses := true, named := ["ipsecgate/chacha.quarters"], apart := false, laid := [("ipsecgate/chacha.quarters", laid_ipsecgate_chacha_quarters)], narrowed := true }
def SealedTotalsUptoSaid : Prop := sealedTotalsUptoRow.holds Tryd.pinned (OpenSpec.upto sealedTotalsSpec)

/-- 'ipsecgatelaw17.SealedReturns', WHERE WHAT IT READS IS OF BULK AT MOST 1048576: true; the input reads as it did. -/
def sealedReturnsUptoRow : OpenClaim := { program := "ytofajgidjkjnpaadoor", sum := "fe935113e8fd8fe09520019bb396b8fa8c54b6fe92c9ba596a38039e3dd6859e", func := "ipsecgate/ipsecgatelaw17.SealedReturns", spec := "sealedReturns", inPlace := ["slices.overlaps[ipsecgate/api.Fragment]"], unfollowed := true, recurses := true, named := ["ipsecgate/chacha.quarters"], apart := false, laid := [("ipsecgate/chacha.quarters", laid_ipsecgate_chacha_quarters)], narrowed := true }
def SealedReturnsUptoSaid : Prop := sealedReturnsUptoRow.holds Tryd.pinned (OpenSpec.upto sealedReturnsSpec)

end Rows
end Go.Proofs.YtofajgidjkjnpaaDoor
