/-
  NARROWER THAN 'FOR EVERY INPUT', by the rows' own cells (each row's printed sentence says how): Sha256Sums: laid · Sha256Pads: laid · Sha256Grows: laid · PrfSums: laid · PrfNests: laid · KeysProve: laid · PrfMany: laid · PrfBegins: laid · KeysChains: laid · KeysDerive: laid · AeadSeals: laid · AeadOpens: laid · AeadReturns: laid · AeadJoins: laid · KeysAgree: laid.
  DERIVED. THE GIVEN ROWS OF THIS SEAT. 15 by the template 'for every input the law returns true; each argument reads behind the call as it read before'; 0 by the template 'total and deterministic' (their statements: YtlamdneheilahaaDoorTotals.lean).
  GIVEN WITH THE SEED: the statements are not yours to turn. If you find one false, say at which input.
  Laid BY PROGRAM, IN A SANDBOX (cutbox-rows.mjs): the forced cells as the released guide's own fill.sh prints them over the translation 890daba033aa05cc… (all of the seat's roots in one cut). By AI agents, Wed Nov 11 2026. No macro, syntax, notation, axiom, sorry.
-/
import Derived.Test.YtlamdneheilahaaDoorChecked
import GoSem.Claim
import GoSem.ClaimJoined
import GoSem.ClaimMapViews
import Derived.JoinedTies
import Derived.KernelRfl
namespace Go.Proofs.YtlamdneheilahaaDoor
/- THE CELL 'sum', in the pinned program and in every row, IS THE sha256 OF THE DUMP (.gsa) THAT YtlamdneheilahaaDoorProg.lean LOADS. Nothing in Lean hashes anything: it is a label: what it is worth is what the hold of that sum in a sandbox is worth. -/
noncomputable def Tryd.pinned : Pinned := { name := "ytlamdneheilahaadoor", sum := "890daba033aa05cceb87440aa329faea63985bc80d91482db4308f848541ff87", checked := Tryd.checked }
namespace Rows
def none {H : Type} : Left H := { results := [], args := [] }

/- WHAT THE LISTED PACKAGE-LEVEL VARIABLES READ AS WHEN THE CALL BEGINS. Each datum BY PROGRAM (the guide's laid-datum.mjs) off the statement by which the dump's own 'gosem.cut.vars' lays the variable. In a bare row this is a premise. The card (YtlamdneheilahaaDoorCards.lean) ties it to the program's text. -/
def laid_ipsecgate_sha256_constants {H : Type} : DataW H := .agg [.lit (.int .u32 1116352408), .lit (.int .u32 1899447441), .lit (.int .u32 3049323471), .lit (.int .u32 3921009573), .lit (.int .u32 961987163), .lit (.int .u32 1508970993), .lit (.int .u32 2453635748), .lit (.int .u32 2870763221), .lit (.int .u32 3624381080), .lit (.int .u32 310598401), .lit (.int .u32 607225278), .lit (.int .u32 1426881987), .lit (.int .u32 1925078388), .lit (.int .u32 2162078206), .lit (.int .u32 2614888103), .lit (.int .u32 3248222580), .lit (.int .u32 3835390401), .lit (.int .u32 4022224774), .lit (.int .u32 264347078), .lit (.int .u32 604807628), .lit (.int .u32 770255983), .lit (.int .u32 1249150122), .lit (.int .u32 1555081692), .lit (.int .u32 1996064986), .lit (.int .u32 2554220882), .lit (.int .u32 2821834349), .lit (.int .u32 2952996808), .lit (.int .u32 3210313671), .lit (.int .u32 3336571891), .lit (.int .u32 3584528711), .lit (.int .u32 113926993), .lit (.int .u32 338241895), .lit (.int .u32 666307205), .lit (.int .u32 773529912), .lit (.int .u32 1294757372), .lit (.int .u32 1396182291), .lit (.int .u32 1695183700), .lit (.int .u32 1986661051), .lit (.int .u32 2177026350), .lit (.int .u32 2456956037), .lit (.int .u32 2730485921), .lit (.int .u32 2820302411), .lit (.int .u32 3259730800), .lit (.int .u32 3345764771), .lit (.int .u32 3516065817), .lit (.int .u32 3600352804), .lit (.int .u32 4094571909), .lit (.int .u32 275423344), .lit (.int .u32 430227734), .lit (.int .u32 506948616), .lit (.int .u32 659060556), .lit (.int .u32 883997877), .lit (.int .u32 958139571), .lit (.int .u32 1322822218), .lit (.int .u32 1537002063), .lit (.int .u32 1747873779), .lit (.int .u32 1955562222), .lit (.int .u32 2024104815), .lit (.int .u32 2227730452), .lit (.int .u32 2361852424), .lit (.int .u32 2428436474), .lit (.int .u32 2756734187), .lit (.int .u32 3204031479), .lit (.int .u32 3329325298)]
def laid_ipsecgate_sha256_initial {H : Type} : DataW H := .agg [.lit (.int .u32 1779033703), .lit (.int .u32 3144134277), .lit (.int .u32 1013904242), .lit (.int .u32 2773480762), .lit (.int .u32 1359893119), .lit (.int .u32 2600822924), .lit (.int .u32 528734635), .lit (.int .u32 1541459225)]
def laid_ipsecgate_keys_sizes {H : Type} : DataW H := .slice [.lit (.int .i64 32), .lit (.int .i64 36), .lit (.int .i64 36), .lit (.int .i64 32), .lit (.int .i64 32), .lit (.int .i64 4)] []
def laid_ipsecgate_chacha_quarters {H : Type} : DataW H := .agg [.agg [.lit (.int .i64 0), .lit (.int .i64 4), .lit (.int .i64 8), .lit (.int .i64 12)], .agg [.lit (.int .i64 1), .lit (.int .i64 5), .lit (.int .i64 9), .lit (.int .i64 13)], .agg [.lit (.int .i64 2), .lit (.int .i64 6), .lit (.int .i64 10), .lit (.int .i64 14)], .agg [.lit (.int .i64 3), .lit (.int .i64 7), .lit (.int .i64 11), .lit (.int .i64 15)], .agg [.lit (.int .i64 0), .lit (.int .i64 5), .lit (.int .i64 10), .lit (.int .i64 15)], .agg [.lit (.int .i64 1), .lit (.int .i64 6), .lit (.int .i64 11), .lit (.int .i64 12)], .agg [.lit (.int .i64 2), .lit (.int .i64 7), .lit (.int .i64 8), .lit (.int .i64 13)], .agg [.lit (.int .i64 3), .lit (.int .i64 4), .lit (.int .i64 9), .lit (.int .i64 14)]]

/-- 'ipsecgatelaw08.Sha256Sums': WHATEVER THE INPUT: true; the input reads as it did. -/
def sha256SumsSpec : ChangeSpec := { name := "sha256Sums", fn := fun _ => fun
  | [d1, d2] => { results := [.lit (.bool true)], args := [d1, d2] }
  | _ => none }
def sha256SumsRow : OpenClaim := { program := "ytlamdneheilahaadoor", sum := "890daba033aa05cceb87440aa329faea63985bc80d91482db4308f848541ff87", func := "ipsecgate/ipsecgatelaw08.Sha256Sums", spec := "sha256Sums", named := ["ipsecgate/sha256.initial", "ipsecgate/sha256.constants"], apart := false, laid := [("ipsecgate/sha256.constants", laid_ipsecgate_sha256_constants), ("ipsecgate/sha256.initial", laid_ipsecgate_sha256_initial)] }
def Sha256SumsSaid : Prop := sha256SumsRow.holds Tryd.pinned (OpenSpec.ofChange sha256SumsSpec)

/-- ITS FALSE NEIGHBOUR: 'it returns false'. Refute it at one input. -/
def sha256SumsWrong : ChangeSpec := { name := "sha256Sums", fn := fun _ => fun
  | [d1, d2] => { results := [.lit (.bool false)], args := [d1, d2] }
  | _ => none }
def Sha256SumsWrongFalsely : Prop := sha256SumsRow.holds Tryd.pinned (OpenSpec.ofChange sha256SumsWrong)

/-- 'ipsecgatelaw08.Sha256Pads': WHATEVER THE INPUT: true; the input reads as it did. -/
def sha256PadsSpec : ChangeSpec := { name := "sha256Pads", fn := fun _ => fun
  | [d] => { results := [.lit (.bool true)], args := [d] }
  | _ => none }
def sha256PadsRow : OpenClaim := { program := "ytlamdneheilahaadoor", sum := "890daba033aa05cceb87440aa329faea63985bc80d91482db4308f848541ff87", func := "ipsecgate/ipsecgatelaw08.Sha256Pads", spec := "sha256Pads", named := ["ipsecgate/sha256.initial", "ipsecgate/sha256.constants"], apart := false, laid := [("ipsecgate/sha256.constants", laid_ipsecgate_sha256_constants), ("ipsecgate/sha256.initial", laid_ipsecgate_sha256_initial)] }
def Sha256PadsSaid : Prop := sha256PadsRow.holds Tryd.pinned (OpenSpec.ofChange sha256PadsSpec)

/-- ITS FALSE NEIGHBOUR: 'it returns false'. Refute it at one input. -/
def sha256PadsWrong : ChangeSpec := { name := "sha256Pads", fn := fun _ => fun
  | [d] => { results := [.lit (.bool false)], args := [d] }
  | _ => none }
def Sha256PadsWrongFalsely : Prop := sha256PadsRow.holds Tryd.pinned (OpenSpec.ofChange sha256PadsWrong)

/-- 'ipsecgatelaw08.Sha256Grows': WHATEVER THE INPUT: true; the input reads as it did. -/
def sha256GrowsSpec : ChangeSpec := { name := "sha256Grows", fn := fun _ => fun
  | [d] => { results := [.lit (.bool true)], args := [d] }
  | _ => none }
def sha256GrowsRow : OpenClaim := { program := "ytlamdneheilahaadoor", sum := "890daba033aa05cceb87440aa329faea63985bc80d91482db4308f848541ff87", func := "ipsecgate/ipsecgatelaw08.Sha256Grows", spec := "sha256Grows", named := ["ipsecgate/sha256.initial", "ipsecgate/sha256.constants"], apart := false, laid := [("ipsecgate/sha256.constants", laid_ipsecgate_sha256_constants), ("ipsecgate/sha256.initial", laid_ipsecgate_sha256_initial)] }
def Sha256GrowsSaid : Prop := sha256GrowsRow.holds Tryd.pinned (OpenSpec.ofChange sha256GrowsSpec)

/-- ITS FALSE NEIGHBOUR: 'it returns false'. Refute it at one input. -/
def sha256GrowsWrong : ChangeSpec := { name := "sha256Grows", fn := fun _ => fun
  | [d] => { results := [.lit (.bool false)], args := [d] }
  | _ => none }
def Sha256GrowsWrongFalsely : Prop := sha256GrowsRow.holds Tryd.pinned (OpenSpec.ofChange sha256GrowsWrong)

/-- 'ipsecgatelaw09.PrfSums': WHATEVER THE INPUT: true; the input reads as it did. -/
def prfSumsSpec : ChangeSpec := { name := "prfSums", fn := fun _ => fun
  | [d1, d2, d3] => { results := [.lit (.bool true)], args := [d1, d2, d3] }
  | _ => none }
def prfSumsRow : OpenClaim := { program := "ytlamdneheilahaadoor", sum := "890daba033aa05cceb87440aa329faea63985bc80d91482db4308f848541ff87", func := "ipsecgate/ipsecgatelaw09.PrfSums", spec := "prfSums", unfollowed := true, recurses := true, named := ["ipsecgate/sha256.initial", "ipsecgate/sha256.constants"], apart := false, laid := [("ipsecgate/sha256.constants", laid_ipsecgate_sha256_constants), ("ipsecgate/sha256.initial", laid_ipsecgate_sha256_initial)] }
def PrfSumsSaid : Prop := prfSumsRow.holds Tryd.pinned (OpenSpec.ofChange prfSumsSpec)

/-- ITS FALSE NEIGHBOUR: 'it returns false'. Refute it at one input. -/
def prfSumsWrong : ChangeSpec := { name := "prfSums", fn := fun _ => fun
  | [d1, d2, d3] => { results := [.lit (.bool false)], args := [d1, d2, d3] }
  | _ => none }
def PrfSumsWrongFalsely : Prop := prfSumsRow.holds Tryd.pinned (OpenSpec.ofChange prfSumsWrong)

/-- 'ipsecgatelaw09.PrfNests': WHATEVER THE INPUT: true; the input reads as it did. -/
def prfNestsSpec : ChangeSpec := { name := "prfNests", fn := fun _ => fun
  | [d1, d2] => { results := [.lit (.bool true)], args := [d1, d2] }
  | _ => none }
def prfNestsRow : OpenClaim := { program := "ytlamdneheilahaadoor", sum := "890daba033aa05cceb87440aa329faea63985bc80d91482db4308f848541ff87", func := "ipsecgate/ipsecgatelaw09.PrfNests", spec := "prfNests", unfollowed := true, recurses := true, named := ["ipsecgate/sha256.initial", "ipsecgate/sha256.constants"], apart := false, laid := [("ipsecgate/sha256.constants", laid_ipsecgate_sha256_constants), ("ipsecgate/sha256.initial", laid_ipsecgate_sha256_initial)] }
def PrfNestsSaid : Prop := prfNestsRow.holds Tryd.pinned (OpenSpec.ofChange prfNestsSpec)

/-- ITS FALSE NEIGHBOUR: 'it returns false'. Refute it at one input. -/
def prfNestsWrong : ChangeSpec := { name := "prfNests", fn := fun _ => fun
  | [d1, d2] => { results := [.lit (.bool false)], args := [d1, d2] }
  | _ => none }
def PrfNestsWrongFalsely : Prop := prfNestsRow.holds Tryd.pinned (OpenSpec.ofChange prfNestsWrong)

/-- 'ipsecgatelaw16.KeysProve': WHATEVER THE INPUT: true; the input reads as it did. -/
def keysProveSpec : ChangeSpec := { name := "keysProve", fn := fun _ => fun
  | [d1, d2, d3, d4, d5, d6] => { results := [.lit (.bool true)], args := [d1, d2, d3, d4, d5, d6] }
  | _ => none }
def keysProveRow : OpenClaim := { program := "ytlamdneheilahaadoor", sum := "890daba033aa05cceb87440aa329faea63985bc80d91482db4308f848541ff87", func := "ipsecgate/ipsecgatelaw16.KeysProve", spec := "keysProve", unfollowed := true, recurses := true, named := ["ipsecgate/sha256.initial", "ipsecgate/sha256.constants"], apart := false, laid := [("ipsecgate/sha256.constants", laid_ipsecgate_sha256_constants), ("ipsecgate/sha256.initial", laid_ipsecgate_sha256_initial)] }
def KeysProveSaid : Prop := keysProveRow.holds Tryd.pinned (OpenSpec.ofChange keysProveSpec)

/-- ITS FALSE NEIGHBOUR: 'it returns false'. Refute it at one input. -/
def keysProveWrong : ChangeSpec := { name := "keysProve", fn := fun _ => fun
  | [d1, d2, d3, d4, d5, d6] => { results := [.lit (.bool false)], args := [d1, d2, d3, d4, d5, d6] }
  | _ => none }
def KeysProveWrongFalsely : Prop := keysProveRow.holds Tryd.pinned (OpenSpec.ofChange keysProveWrong)

/-- 'ipsecgatelaw09.PrfMany': WHATEVER THE INPUT: true; the input reads as it did. -/
def prfManySpec : ChangeSpec := { name := "prfMany", fn := fun _ => fun
  | [d1, d2, d3, d4] => { results := [.lit (.bool true)], args := [d1, d2, d3, d4] }
  | _ => none }
def prfManyRow : OpenClaim := { program := "ytlamdneheilahaadoor", sum := "890daba033aa05cceb87440aa329faea63985bc80d91482db4308f848541ff87", func := "ipsecgate/ipsecgatelaw09.PrfMany", spec := "prfMany", unfollowed := true, recurses := true, named := ["ipsecgate/sha256.initial", "ipsecgate/sha256.constants"], apart := false, laid := [("ipsecgate/sha256.constants", laid_ipsecgate_sha256_constants), ("ipsecgate/sha256.initial", laid_ipsecgate_sha256_initial)] }
def PrfManySaid : Prop := prfManyRow.holds Tryd.pinned (OpenSpec.ofChange prfManySpec)

/-- ITS FALSE NEIGHBOUR: 'it returns false'. Refute it at one input. -/
def prfManyWrong : ChangeSpec := { name := "prfMany", fn := fun _ => fun
  | [d1, d2, d3, d4] => { results := [.lit (.bool false)], args := [d1, d2, d3, d4] }
  | _ => none }
def PrfManyWrongFalsely : Prop := prfManyRow.holds Tryd.pinned (OpenSpec.ofChange prfManyWrong)

/-- 'ipsecgatelaw09.PrfBegins': WHATEVER THE INPUT: true; the input reads as it did. -/
def prfBeginsSpec : ChangeSpec := { name := "prfBegins", fn := fun _ => fun
  | [d1, d2, d3, d4, d5] => { results := [.lit (.bool true)], args := [d1, d2, d3, d4, d5] }
  | _ => none }
def prfBeginsRow : OpenClaim := { program := "ytlamdneheilahaadoor", sum := "890daba033aa05cceb87440aa329faea63985bc80d91482db4308f848541ff87", func := "ipsecgate/ipsecgatelaw09.PrfBegins", spec := "prfBegins", unfollowed := true, recurses := true, named := ["ipsecgate/sha256.initial", "ipsecgate/sha256.constants"], apart := false, laid := [("ipsecgate/sha256.constants", laid_ipsecgate_sha256_constants), ("ipsecgate/sha256.initial", laid_ipsecgate_sha256_initial)] }
def PrfBeginsSaid : Prop := prfBeginsRow.holds Tryd.pinned (OpenSpec.ofChange prfBeginsSpec)

/-- ITS FALSE NEIGHBOUR: 'it returns false'. Refute it at one input. -/
def prfBeginsWrong : ChangeSpec := { name := "prfBegins", fn := fun _ => fun
  | [d1, d2, d3, d4, d5] => { results := [.lit (.bool false)], args := [d1, d2, d3, d4, d5] }
  | _ => none }
def PrfBeginsWrongFalsely : Prop := prfBeginsRow.holds Tryd.pinned (OpenSpec.ofChange prfBeginsWrong)

/-- 'ipsecgatelaw16.KeysChains': WHATEVER THE INPUT: true; the input reads as it did. -/
def keysChainsSpec : ChangeSpec := { name := "keysChains", fn := fun _ => fun
  | [d1, d2, d3, d4] => { results := [.lit (.bool true)], args := [d1, d2, d3, d4] }
  | _ => none }
def keysChainsRow : OpenClaim := { program := "ytlamdneheilahaadoor", sum := "890daba033aa05cceb87440aa329faea63985bc80d91482db4308f848541ff87", func := "ipsecgate/ipsecgatelaw16.KeysChains", spec := "keysChains", unfollowed := true, recurses := true, named := ["ipsecgate/sha256.initial", "ipsecgate/sha256.constants", "ipsecgate/keys.sizes"], apart := false, laid := [("ipsecgate/sha256.constants", laid_ipsecgate_sha256_constants), ("ipsecgate/sha256.initial", laid_ipsecgate_sha256_initial), ("ipsecgate/keys.sizes", laid_ipsecgate_keys_sizes)] }
def KeysChainsSaid : Prop := keysChainsRow.holds Tryd.pinned (OpenSpec.ofChange keysChainsSpec)

/-- ITS FALSE NEIGHBOUR: 'it returns false'. Refute it at one input. -/
def keysChainsWrong : ChangeSpec := { name := "keysChains", fn := fun _ => fun
  | [d1, d2, d3, d4] => { results := [.lit (.bool false)], args := [d1, d2, d3, d4] }
  | _ => none }
def KeysChainsWrongFalsely : Prop := keysChainsRow.holds Tryd.pinned (OpenSpec.ofChange keysChainsWrong)

/-- 'ipsecgatelaw16.KeysDerive': WHATEVER THE INPUT: true; the input reads as it did. -/
def keysDeriveSpec : ChangeSpec := { name := "keysDerive", fn := fun _ => fun
  | [d1, d2, d3, d4, d5] => { results := [.lit (.bool true)], args := [d1, d2, d3, d4, d5] }
  | _ => none }
def keysDeriveRow : OpenClaim := { program := "ytlamdneheilahaadoor", sum := "890daba033aa05cceb87440aa329faea63985bc80d91482db4308f848541ff87", func := "ipsecgate/ipsecgatelaw16.KeysDerive", spec := "keysDerive", unfollowed := true, recurses := true, named := ["ipsecgate/sha256.initial", "ipsecgate/sha256.constants", "ipsecgate/keys.sizes"], apart := false, laid := [("ipsecgate/sha256.constants", laid_ipsecgate_sha256_constants), ("ipsecgate/sha256.initial", laid_ipsecgate_sha256_initial), ("ipsecgate/keys.sizes", laid_ipsecgate_keys_sizes)] }
def KeysDeriveSaid : Prop := keysDeriveRow.holds Tryd.pinned (OpenSpec.ofChange keysDeriveSpec)

/-- ITS FALSE NEIGHBOUR: 'it returns false'. Refute it at one input. -/
def keysDeriveWrong : ChangeSpec := { name := "keysDerive", fn := fun _ => fun
  | [d1, d2, d3, d4, d5] => { results := [.lit (.bool false)], args := [d1, d2, d3, d4, d5] }
  | _ => none }
def KeysDeriveWrongFalsely : Prop := keysDeriveRow.holds Tryd.pinned (OpenSpec.ofChange keysDeriveWrong)

/-- 'ipsecgatelaw12.AeadSeals': WHATEVER THE INPUT: true; the input reads as it did. -/
def aeadSealsSpec : ChangeSpec := { name := "aeadSeals", fn := fun _ => fun
  | [d1, d2, d3, d4, d5] => { results := [.lit (.bool true)], args := [d1, d2, d3, d4, d5] }
  | _ => none }
def aeadSealsRow : OpenClaim := { program := "ytlamdneheilahaadoor", sum := "890daba033aa05cceb87440aa329faea63985bc80d91482db4308f848541ff87", func := "ipsecgate/ipsecgatelaw12.AeadSeals", spec := "aeadSeals", unfollowed := true, recurses := true, named := ["ipsecgate/chacha.quarters"], apart := false, laid := [("ipsecgate/chacha.quarters", laid_ipsecgate_chacha_quarters)] }
def AeadSealsSaid : Prop := aeadSealsRow.holds Tryd.pinned (OpenSpec.ofChange aeadSealsSpec)

/-- ITS FALSE NEIGHBOUR: 'it returns false'. Refute it at one input. -/
def aeadSealsWrong : ChangeSpec := { name := "aeadSeals", fn := fun _ => fun
  | [d1, d2, d3, d4, d5] => { results := [.lit (.bool false)], args := [d1, d2, d3, d4, d5] }
  | _ => none }
def AeadSealsWrongFalsely : Prop := aeadSealsRow.holds Tryd.pinned (OpenSpec.ofChange aeadSealsWrong)

/-- 'ipsecgatelaw12.AeadOpens': WHATEVER THE INPUT: true; the input reads as it did. -/
def aeadOpensSpec : ChangeSpec := { name := "aeadOpens", fn := fun _ => fun
  | [d1, d2, d3] => { results := [.lit (.bool true)], args := [d1, d2, d3] }
  | _ => none }
def aeadOpensRow : OpenClaim := { program := "ytlamdneheilahaadoor", sum := "890daba033aa05cceb87440aa329faea63985bc80d91482db4308f848541ff87", func := "ipsecgate/ipsecgatelaw12.AeadOpens", spec := "aeadOpens", unfollowed := true, recurses := true, named := ["ipsecgate/chacha.quarters"], apart := false, laid := [("ipsecgate/chacha.quarters", laid_ipsecgate_chacha_quarters)] }
def AeadOpensSaid : Prop := aeadOpensRow.holds Tryd.pinned (OpenSpec.ofChange aeadOpensSpec)

/-- ITS FALSE NEIGHBOUR: 'it returns false'. Refute it at one input. -/
def aeadOpensWrong : ChangeSpec := { name := "aeadOpens", fn := fun _ => fun
  | [d1, d2, d3] => { results := [.lit (.bool false)], args := [d1, d2, d3] }
  | _ => none }
def AeadOpensWrongFalsely : Prop := aeadOpensRow.holds Tryd.pinned (OpenSpec.ofChange aeadOpensWrong)

/-- 'ipsecgatelaw12.AeadReturns': WHATEVER THE INPUT: true; the input reads as it did. -/
def aeadReturnsSpec : ChangeSpec := { name := "aeadReturns", fn := fun _ => fun
  | [d1, d2, d3, d4, d5] => { results := [.lit (.bool true)], args := [d1, d2, d3, d4, d5] }
  | _ => none }
def aeadReturnsRow : OpenClaim := { program := "ytlamdneheilahaadoor", sum := "890daba033aa05cceb87440aa329faea63985bc80d91482db4308f848541ff87", func := "ipsecgate/ipsecgatelaw12.AeadReturns", spec := "aeadReturns", unfollowed := true, recurses := true, named := ["ipsecgate/chacha.quarters"], apart := false, laid := [("ipsecgate/chacha.quarters", laid_ipsecgate_chacha_quarters)] }
def AeadReturnsSaid : Prop := aeadReturnsRow.holds Tryd.pinned (OpenSpec.ofChange aeadReturnsSpec)

/-- ITS FALSE NEIGHBOUR: 'it returns false'. Refute it at one input. -/
def aeadReturnsWrong : ChangeSpec := { name := "aeadReturns", fn := fun _ => fun
  | [d1, d2, d3, d4, d5] => { results := [.lit (.bool false)], args := [d1, d2, d3, d4, d5] }
  | _ => none }
def AeadReturnsWrongFalsely : Prop := aeadReturnsRow.holds Tryd.pinned (OpenSpec.ofChange aeadReturnsWrong)

/-- 'ipsecgatelaw12.AeadJoins': WHATEVER THE INPUT: true; the input reads as it did. -/
def aeadJoinsSpec : ChangeSpec := { name := "aeadJoins", fn := fun _ => fun
  | [d1, d2, d3] => { results := [.lit (.bool true)], args := [d1, d2, d3] }
  | _ => none }
def aeadJoinsRow : OpenClaim := { program := "ytlamdneheilahaadoor", sum := "890daba033aa05cceb87440aa329faea63985bc80d91482db4308f848541ff87", func := "ipsecgate/ipsecgatelaw12.AeadJoins", spec := "aeadJoins", unfollowed := true, recurses := true, named := ["ipsecgate/chacha.quarters"], apart := false, laid := [("ipsecgate/chacha.quarters", laid_ipsecgate_chacha_quarters)] }
def AeadJoinsSaid : Prop := aeadJoinsRow.holds Tryd.pinned (OpenSpec.ofChange aeadJoinsSpec)

/-- ITS FALSE NEIGHBOUR: 'it returns false'. Refute it at one input. -/
def aeadJoinsWrong : ChangeSpec := { name := "aeadJoins", fn := fun _ => fun
  | [d1, d2, d3] => { results := [.lit (.bool false)], args := [d1, d2, d3] }
  | _ => none }
def AeadJoinsWrongFalsely : Prop := aeadJoinsRow.holds Tryd.pinned (OpenSpec.ofChange aeadJoinsWrong)

/-- 'ipsecgatelaw16.KeysAgree': WHATEVER THE INPUT: true; the input reads as it did. -/
def keysAgreeSpec : ChangeSpec := { name := "keysAgree", fn := fun _ => fun
  | [d1, d2, d3] => { results := [.lit (.bool true)], args := [d1, d2, d3] }
  | _ => none }
def keysAgreeRow : OpenClaim := { program := "ytlamdneheilahaadoor", sum := "890daba033aa05cceb87440aa329faea63985bc80d91482db4308f848541ff87", func := "ipsecgate/ipsecgatelaw16.KeysAgree", spec := "keysAgree", unfollowed := true, recurses := true, named := ["ipsecgate/sha256.initial", "ipsecgate/sha256.constants", "math/bits.divideError", "math/bits.overflowError", "ipsecgate/keys.sizes"], apart := false, laid := [("ipsecgate/sha256.constants", laid_ipsecgate_sha256_constants), ("ipsecgate/sha256.initial", laid_ipsecgate_sha256_initial), ("ipsecgate/keys.sizes", laid_ipsecgate_keys_sizes)] }
def KeysAgreeSaid : Prop := keysAgreeRow.holds Tryd.pinned (OpenSpec.ofChange keysAgreeSpec)

/-- ITS FALSE NEIGHBOUR: 'it returns false'. Refute it at one input. -/
def keysAgreeWrong : ChangeSpec := { name := "keysAgree", fn := fun _ => fun
  | [d1, d2, d3] => { results := [.lit (.bool false)], args := [d1, d2, d3] }
  | _ => none }
def KeysAgreeWrongFalsely : Prop := keysAgreeRow.holds Tryd.pinned (OpenSpec.ofChange keysAgreeWrong)

/- THE SECOND FORM. 'bulk': how many values and letters a reading holds, each counted each time it is reached (what is shared counts as often as it is met; a slice's spare places count too). A statement '..UptoSaid' is the law's where the arguments, and the package variables that the reading takes, are together of bulk at most 1048576: NARROWER than '..Said'. Prove '..Said' where nothing that the law and all that it calls make is longer than what came in: it says more and counts as full. Else prove '..UptoSaid'. A law counts once. -/
mutual
def uptoBulk {H : Type} : DataW H → Nat
  | .lit (.string bytes) => bytes.length + 1
  | .lit _ => 1
  | .nil => 1
  | .ptr d => uptoBulk d + 1
  | .slice elems spare => uptoBulkAll elems + uptoBulkAll spare + 1
  | .agg parts => uptoBulkAll parts + 1
  | .iface _ d => uptoBulk d + 1
  | .map entries => uptoBulkEntries entries + 1
  | .held _ => 1
def uptoBulkAll {H : Type} : List (DataW H) → Nat
  | [] => 0
  | d :: r => uptoBulk d + uptoBulkAll r
def uptoBulkEntries {H : Type} : List (Lit × DataW H) → Nat
  | [] => 0
  | x :: r => uptoBulkEntry x + uptoBulkEntries r
def uptoBulkEntry {H : Type} : Lit × DataW H → Nat
  | (.string bytes, d) => bytes.length + uptoBulk d + 1
  | (_, d) => uptoBulk d + 1
 end
def uptoSmall : (H : Type) → List (DataW H) → Bool := fun _ ds => decide (uptoBulkAll ds ≤ 1048576)
def OpenSpec.upto (s : _root_.Go.ChangeSpec) : _root_.Go.OpenSpec := { _root_.Go.OpenSpec.ofChange s with cond := some uptoSmall }

/-- 'ipsecgatelaw08.Sha256Sums', WHERE WHAT IT READS IS OF BULK AT MOST 1048576: true; the input reads as it did. -/
def sha256SumsUptoRow : OpenClaim := { program := "ytlamdneheilahaadoor", sum := "890daba033aa05cceb87440aa329faea63985bc80d91482db4308f848541ff87", func := "ipsecgate/ipsecgatelaw08.Sha256Sums", spec := "sha256Sums", named := ["ipsecgate/sha256.initial", "ipsecgate/sha256.constants"], apart := false, laid := [("ipsecgate/sha256.constants", laid_ipsecgate_sha256_constants), ("ipsecgate/sha256.initial", laid_ipsecgate_sha256_initial)], narrowed := true }
def Sha256SumsUptoSaid : Prop := sha256SumsUptoRow.holds Tryd.pinned (OpenSpec.upto sha256SumsSpec)

/-- 'ipsecgatelaw08.Sha256Pads', WHERE WHAT IT READS IS OF BULK AT MOST 1048576: true; the input reads as it did. -/
def sha256PadsUptoRow : OpenClaim := { program := "ytlamdneheilahaadoor", sum := "890daba033aa05cceb87440aa329faea63985bc80d91482db4308f848541ff87", func := "ipsecgate/ipsecgatelaw08.Sha256Pads", spec := "sha256Pads", named := ["ipsecgate/sha256.initial", "ipsecgate/sha256.constants"], apart := false, laid := [("ipsecgate/sha256.constants", laid_ipsecgate_sha256_constants), ("ipsecgate/sha256.initial", laid_ipsecgate_sha256_initial)], narrowed := true }
def Sha256PadsUptoSaid : Prop := sha256PadsUptoRow.holds Tryd.pinned (OpenSpec.upto sha256PadsSpec)

/-- 'ipsecgatelaw08.Sha256Grows', WHERE WHAT IT READS IS OF BULK AT MOST 1048576: true; the input reads as it did. -/
def sha256GrowsUptoRow : OpenClaim := { program := "ytlamdneheilahaadoor", sum := "890daba033aa05cceb87440aa329faea63985bc80d91482db4308f848541ff87", func := "ipsecgate/ipsecgatelaw08.Sha256Grows", spec := "sha256Grows", named := ["ipsecgate/sha256.initial", "ipsecgate/sha256.constants"], apart := false, laid := [("ipsecgate/sha256.constants", laid_ipsecgate_sha256_constants), ("ipsecgate/sha256.initial", laid_ipsecgate_sha256_initial)], narrowed := true }
def Sha256GrowsUptoSaid : Prop := sha256GrowsUptoRow.holds Tryd.pinned (OpenSpec.upto sha256GrowsSpec)

/-- 'ipsecgatelaw09.PrfSums', WHERE WHAT IT READS IS OF BULK AT MOST 1048576: true; the input reads as it did. -/
def prfSumsUptoRow : OpenClaim := { program := "ytlamdneheilahaadoor", sum := "890daba033aa05cceb87440aa329faea63985bc80d91482db4308f848541ff87", func := "ipsecgate/ipsecgatelaw09.PrfSums", spec := "prfSums", unfollowed := true, recurses := true, named := ["ipsecgate/sha256.initial", "ipsecgate/sha256.constants"], apart := false, laid := [("ipsecgate/sha256.constants", laid_ipsecgate_sha256_constants), ("ipsecgate/sha256.initial", laid_ipsecgate_sha256_initial)], narrowed := true }
def PrfSumsUptoSaid : Prop := prfSumsUptoRow.holds Tryd.pinned (OpenSpec.upto prfSumsSpec)

/-- 'ipsecgatelaw09.PrfNests', WHERE WHAT IT READS IS OF BULK AT MOST 1048576: true; the input reads as it did. -/
def prfNestsUptoRow : OpenClaim := { program := "ytlamdneheilahaadoor", sum := "890daba033aa05cceb87440aa329faea63985bc80d91482db4308f848541ff87", func := "ipsecgate/ipsecgatelaw09.PrfNests", spec := "prfNests", unfollowed := true, recurses := true, named := ["ipsecgate/sha256.initial", "ipsecgate/sha256.constants"], apart := false, laid := [("ipsecgate/sha256.constants", laid_ipsecgate_sha256_constants), ("ipsecgate/sha256.initial", laid_ipsecgate_sha256_initial)], narrowed := true }
def PrfNestsUptoSaid : Prop := prfNestsUptoRow.holds Tryd.pinned (OpenSpec.upto prfNestsSpec)

/-- 'ipsecgatelaw16.KeysProve', WHERE WHAT IT READS IS OF BULK AT MOST 1048576: true; the input reads as it did. -/
def keysProveUptoRow : OpenClaim := { program := "ytlamdneheilahaadoor", sum := "890daba033aa05cceb87440aa329faea63985bc80d91482db4308f848541ff87", func := "ipsecgate/ipsecgatelaw16.KeysProve", spec := "keysProve", unfollowed := true, recurses := true, named := ["ipsecgate/sha256.initial", "ipsecgate/sha256.constants"], apart := false, laid := [("ipsecgate/sha256.constants", laid_ipsecgate_sha256_constants), ("ipsecgate/sha256.initial", laid_ipsecgate_sha256_initial)], narrowed := true }
def KeysProveUptoSaid : Prop := keysProveUptoRow.holds Tryd.pinned (OpenSpec.upto keysProveSpec)

/-- 'ipsecgatelaw09.PrfMany', WHERE WHAT IT READS IS OF BULK AT MOST 1048576: true; the input reads as it did. -/
def prfManyUptoRow : OpenClaim := { program := "ytlamdneheilahaadoor", sum := "890daba033aa05cceb87440aa329faea63985bc80d91482db4308f848541ff87", func := "ipsecgate/ipsecgatelaw09.PrfMany", spec := "prfMany", unfollowed := true, recurses := true, named := ["ipsecgate/sha256.initial", "ipsecgate/sha256.constants"], apart := false, laid := [("ipsecgate/sha256.constants", laid_ipsecgate_sha256_constants), ("ipsecgate/sha256.initial", laid_ipsecgate_sha256_initial)], narrowed := true }
def PrfManyUptoSaid : Prop := prfManyUptoRow.holds Tryd.pinned (OpenSpec.upto prfManySpec)

/-- 'ipsecgatelaw09.PrfBegins', WHERE WHAT IT READS IS OF BULK AT MOST 1048576: true; the input reads as it did. -/
def prfBeginsUptoRow : OpenClaim := { program := "ytlamdneheilahaadoor", sum := "890daba033aa05cceb87440aa329faea63985bc80d91482db4308f848541ff87", func := "ipsecgate/ipsecgatelaw09.PrfBegins", spec := "prfBegins", unfollowed := true, recurses := true, named := ["ipsecgate/sha256.initial", "ipsecgate/sha256.constants"], apart := false, laid := [("ipsecgate/sha256.constants", laid_ipsecgate_sha256_constants), ("ipsecgate/sha256.initial", laid_ipsecgate_sha256_initial)], narrowed := true }
def PrfBeginsUptoSaid : Prop := prfBeginsUptoRow.holds Tryd.pinned (OpenSpec.upto prfBeginsSpec)

/-- 'ipsecgatelaw16.KeysChains', WHERE WHAT IT READS IS OF BULK AT MOST 1048576: true; the input reads as it did. -/
def keysChainsUptoRow : OpenClaim := { program := "ytlamdneheilahaadoor", sum := "890daba033aa05cceb87440aa329faea63985bc80d91482db4308f848541ff87", func := "ipsecgate/ipsecgatelaw16.KeysChains", spec := "keysChains", unfollowed := true, recurses := true, named := ["ipsecgate/sha256.initial", "ipsecgate/sha256.constants", "ipsecgate/keys.sizes"], apart := false, laid := [("ipsecgate/sha256.constants", laid_ipsecgate_sha256_constants), ("ipsecgate/sha256.initial", laid_ipsecgate_sha256_initial), ("ipsecgate/keys.sizes", laid_ipsecgate_keys_sizes)], narrowed := true }
def KeysChainsUptoSaid : Prop := keysChainsUptoRow.holds Tryd.pinned (OpenSpec.upto keysChainsSpec)

/-- 'ipsecgatelaw16.KeysDerive', WHERE WHAT IT READS IS OF BULK AT MOST 1048576: true; the input reads as it did. -/
def keysDeriveUptoRow : OpenClaim := { program := "ytlamdneheilahaadoor", sum := "890daba033aa05cceb87440aa329faea63985bc80d91482db4308f848541ff87", func := "ipsecgate/ipsecgatelaw16.KeysDerive", spec := "keysDerive", unfollowed := true, recurses := true, named := ["ipsecgate/sha256.initial", "ipsecgate/sha256.constants", "ipsecgate/keys.sizes"], apart := false, laid := [("ipsecgate/sha256.constants", laid_ipsecgate_sha256_constants), ("ipsecgate/sha256.initial", laid_ipsecgate_sha256_initial), ("ipsecgate/keys.sizes", laid_ipsecgate_keys_sizes)], narrowed := true }
def KeysDeriveUptoSaid : Prop := keysDeriveUptoRow.holds Tryd.pinned (OpenSpec.upto keysDeriveSpec)

/-- 'ipsecgatelaw12.AeadSeals', WHERE WHAT IT READS IS OF BULK AT MOST 1048576: true; the input reads as it did. -/
def aeadSealsUptoRow : OpenClaim := { program := "ytlamdneheilahaadoor", sum := "890daba033aa05cceb87440aa329faea63985bc80d91482db4308f848541ff87", func := "ipsecgate/ipsecgatelaw12.AeadSeals", spec := "aeadSeals", unfollowed := true, recurses := true, named := ["ipsecgate/chacha.quarters"], apart := false, laid := [("ipsecgate/chacha.quarters", laid_ipsecgate_chacha_quarters)], narrowed := true }
def AeadSealsUptoSaid : Prop := aeadSealsUptoRow.holds Tryd.pinned (OpenSpec.upto aeadSealsSpec)

/-- 'ipsecgatelaw12.AeadOpens', WHERE WHAT IT READS IS OF BULK AT MOST 1048576: true; the input reads as it did. -/
def aeadOpensUptoRow : OpenClaim := { program := "ytlamdneheilahaadoor", sum := "890daba033aa05cceb87440aa329faea63985bc80d91482db4308f848541ff87", func := "ipsecgate/ipsecgatelaw12.AeadOpens", spec := "aeadOpens", unfollowed := true, recurses := true, named := ["ipsecgate/chacha.quarters"], apart := false, laid := [("ipsecgate/chacha.quarters", laid_ipsecgate_chacha_quarters)], narrowed := true }
def AeadOpensUptoSaid : Prop := aeadOpensUptoRow.holds Tryd.pinned (OpenSpec.upto aeadOpensSpec)

/-- 'ipsecgatelaw12.AeadReturns', WHERE WHAT IT READS IS OF BULK AT MOST 1048576: true; the input reads as it did. -/
def aeadReturnsUptoRow : OpenClaim := { program := "ytlamdneheilahaadoor", sum := "890daba033aa05cceb87440aa329faea63985bc80d91482db4308f848541ff87", func := "ipsecgate/ipsecgatelaw12.AeadReturns", spec := "aeadReturns", unfollowed := true, recurses := true, named := ["ipsecgate/chacha.quarters"], apart := false, laid := [("ipsecgate/chacha.quarters", laid_ipsecgate_chacha_quarters)], narrowed := true }
def AeadReturnsUptoSaid : Prop := aeadReturnsUptoRow.holds Tryd.pinned (OpenSpec.upto aeadReturnsSpec)

/-- 'ipsecgatelaw12.AeadJoins', WHERE WHAT IT READS IS OF BULK AT MOST 1048576: true; the input reads as it did. -/
def aeadJoinsUptoRow : OpenClaim := { program := "ytlamdneheilahaadoor", sum := "890daba033aa05cceb87440aa329faea63985bc80d91482db4308f848541ff87", func := "ipsecgate/ipsecgatelaw12.AeadJoins", spec := "aeadJoins", unfollowed := true, recurses := true, named := ["ipsecgate/chacha.quarters"], apart := false, laid := [("ipsecgate/chacha.quarters", laid_ipsecgate_chacha_quarters)], narrowed := true }
def AeadJoinsUptoSaid : Prop := aeadJoinsUptoRow.holds Tryd.pinned (OpenSpec.upto aeadJoinsSpec)

/-- 'ipsecgatelaw16.KeysAgree', WHERE WHAT IT READS IS OF BULK AT MOST 1048576: true; the input reads as it did. -/
def keysAgreeUptoRow : OpenClaim := { program := "ytlamdneheilahaadoor", sum := "890daba033aa05cceb87440aa329faea63985bc80d91482db4308f848541ff87", func := "ipsecgate/ipsecgatelaw16.KeysAgree", spec := "keysAgree", unfollowed := true, recurses := true, named := ["ipsecgate/sha256.initial", "ipsecgate/sha256.constants", "math/bits.divideError", "math/bits.overflowError", "ipsecgate/keys.sizes"], apart := false, laid := [("ipsecgate/sha256.constants", laid_ipsecgate_sha256_constants), ("ipsecgate/sha256.initial", laid_ipsecgate_sha256_initial), ("ipsecgate/keys.sizes", laid_ipsecgate_keys_sizes)], narrowed := true }
def KeysAgreeUptoSaid : Prop := keysAgreeUptoRow.holds Tryd.pinned (OpenSpec.upto keysAgreeSpec)

end Rows
end Go.Proofs.YtlamdneheilahaaDoor
