/-
  No cell of these rows narrows 'for every input' (looked for: loops, veiled, ifaces, maps, wideKeys, modest, calm, conditions, laid).
  DERIVED. THE GIVEN ROWS OF THIS SEAT. 4 by the template 'for every input the law returns true; each argument reads behind the call as it read before'; 0 by the template 'total and deterministic' (their statements: YtehbbcdhahnkgaaGreatTotals.lean).
  GIVEN WITH THE SEED: the statements are not yours to turn. If you find one false, say at which input.
  Laid BY PROGRAM, IN A SANDBOX (cutbox-rows.mjs): the forced cells as the released guide's own fill.sh prints them over the translation 6c667012b26ab200… (all of the seat's roots in one cut). By AI agents, Wed Nov 11 2026. No macro, syntax, notation, axiom, sorry.
-/
import Derived.Test.YtehbbcdhahnkgaaGreatChecked
import GoSem.Claim
import GoSem.ClaimJoined
import GoSem.ClaimMapViews
import Derived.JoinedTies
import Derived.KernelRfl
namespace Go.Proofs.YtehbbcdhahnkgaaGreat
/- THE CELL 'sum', in the pinned program and in every row, IS THE sha256 OF THE DUMP (.gsa) THAT YtehbbcdhahnkgaaGreatProg.lean LOADS. Nothing in Lean hashes anything: it is a label: what it is worth is what the hold of that sum in a sandbox is worth. -/
noncomputable def Tryz.pinned : Pinned := { name := "ytehbbcdhahnkgaagreat", sum := "6c667012b26ab200bfb6084da730450fb1cc7cc649d413c77638da1548ac98f4", checked := Tryz.checked }
namespace Rows
def none {H : Type} : Left H := { results := [], args := [] }

/-- 'ipsecgatetop.TopAlone': WHATEVER THE INPUT: true; the input reads as it did. -/
def topAloneSpec : ChangeSpec := { name := "topAlone", fn := fun _ => fun
  | [d1, d2] => { results := [.lit (.bool true)], args := [d1, d2] }
  | _ => none }
def topAloneRow : OpenClaim := { program := "ytehbbcdhahnkgaagreat", sum := "6c667012b26ab200bfb6084da730450fb1cc7cc649d413c77638da1548ac98f4", func := "ipsecgate/ipsecgatetop.TopAlone", spec := "topAlone", inPlace := ["slices.overlaps[ipsecgate/api.Term]"], unfollowed := true, recurses := true, apart := false }
def TopAloneSaid : Prop := topAloneRow.holds Tryz.pinned (OpenSpec.ofChange topAloneSpec)

/-- ITS FALSE NEIGHBOUR: 'it returns false'. Refute it at one input. -/
def topAloneWrong : ChangeSpec := { name := "topAlone", fn := fun _ => fun
  | [d1, d2] => { results := [.lit (.bool false)], args := [d1, d2] }
  | _ => none }
def TopAloneWrongFalsely : Prop := topAloneRow.holds Tryz.pinned (OpenSpec.ofChange topAloneWrong)

/-- 'ipsecgatetop.TopEnds': WHATEVER THE INPUT: true; the input reads as it did. -/
def topEndsSpec : ChangeSpec := { name := "topEnds", fn := fun _ => fun
  | [d1, d2] => { results := [.lit (.bool true)], args := [d1, d2] }
  | _ => none }
def topEndsRow : OpenClaim := { program := "ytehbbcdhahnkgaagreat", sum := "6c667012b26ab200bfb6084da730450fb1cc7cc649d413c77638da1548ac98f4", func := "ipsecgate/ipsecgatetop.TopEnds", spec := "topEnds", inPlace := ["slices.overlaps[ipsecgate/api.Term]"], unfollowed := true, recurses := true, apart := false }
def TopEndsSaid : Prop := topEndsRow.holds Tryz.pinned (OpenSpec.ofChange topEndsSpec)

/-- ITS FALSE NEIGHBOUR: 'it returns false'. Refute it at one input. -/
def topEndsWrong : ChangeSpec := { name := "topEnds", fn := fun _ => fun
  | [d1, d2] => { results := [.lit (.bool false)], args := [d1, d2] }
  | _ => none }
def TopEndsWrongFalsely : Prop := topEndsRow.holds Tryz.pinned (OpenSpec.ofChange topEndsWrong)

/-- 'ipsecgatetop.TopMoves': WHATEVER THE INPUT: true; the input reads as it did. -/
def topMovesSpec : ChangeSpec := { name := "topMoves", fn := fun _ => fun
  | [d1, d2] => { results := [.lit (.bool true)], args := [d1, d2] }
  | _ => none }
def topMovesRow : OpenClaim := { program := "ytehbbcdhahnkgaagreat", sum := "6c667012b26ab200bfb6084da730450fb1cc7cc649d413c77638da1548ac98f4", func := "ipsecgate/ipsecgatetop.TopMoves", spec := "topMoves", inPlace := ["slices.overlaps[ipsecgate/api.Term]"], unfollowed := true, recurses := true, apart := false }
def TopMovesSaid : Prop := topMovesRow.holds Tryz.pinned (OpenSpec.ofChange topMovesSpec)

/-- ITS FALSE NEIGHBOUR: 'it returns false'. Refute it at one input. -/
def topMovesWrong : ChangeSpec := { name := "topMoves", fn := fun _ => fun
  | [d1, d2] => { results := [.lit (.bool false)], args := [d1, d2] }
  | _ => none }
def TopMovesWrongFalsely : Prop := topMovesRow.holds Tryz.pinned (OpenSpec.ofChange topMovesWrong)

/-- 'ipsecgatetop.TopResumes': WHATEVER THE INPUT: true; the input reads as it did. -/
def topResumesSpec : ChangeSpec := { name := "topResumes", fn := fun _ => fun
  | [d] => { results := [.lit (.bool true)], args := [d] }
  | _ => none }
def topResumesRow : OpenClaim := { program := "ytehbbcdhahnkgaagreat", sum := "6c667012b26ab200bfb6084da730450fb1cc7cc649d413c77638da1548ac98f4", func := "ipsecgate/ipsecgatetop.TopResumes", spec := "topResumes", inPlace := ["slices.overlaps[ipsecgate/api.Term]"], unfollowed := true, recurses := true, apart := false }
def TopResumesSaid : Prop := topResumesRow.holds Tryz.pinned (OpenSpec.ofChange topResumesSpec)

/-- ITS FALSE NEIGHBOUR: 'it returns false'. Refute it at one input. -/
def topResumesWrong : ChangeSpec := { name := "topResumes", fn := fun _ => fun
  | [d] => { results := [.lit (.bool false)], args := [d] }
  | _ => none }
def TopResumesWrongFalsely : Prop := topResumesRow.holds Tryz.pinned (OpenSpec.ofChange topResumesWrong)

/- THE SECOND FORM. 'bulk': how many values and letters a reading holds, each counted each time it is reached (what is shared counts as often as it is met; a slice's spare places count too). A statement '..UptoSaid' is the law's where the arguments, and the package variables that the reading takes, are together of bulk at most 1048576: NARROWER than '..Said'. Prove '..Said' where nothing that the law and all that it calls make is longer than what came in: it says more and counts as full. Else prove '..UptoSaid'. A law counts once. -/
mutual
def uptoBulk {H : Type} : DataW H → Nat
  | .lit (.string bytes) => bytes.length + 1
  | .lit _ => 1
  | .nil => 1
  | .ptr d => uptoBulk d + 1
  | .slice elems spare => uptoBulkAll elems + uptoBulkAll spare + 1
  | .agg parts => uptoBulkAll parts + 1
  | .iface _ d => uptoBulk d + 1
  | .map entries => uptoBulkEntries entries + 1
  | .held _ => 1
def uptoBulkAll {H : Type} : List (DataW H) → Nat
  | [] => 0
  | d :: r => uptoBulk d + uptoBulkAll r
def uptoBulkEntries {H : Type} : List (Lit × DataW H) → Nat
  | [] => 0
  | x :: r => uptoBulkEntry x + uptoBulkEntries r
def uptoBulkEntry {H : Type} : Lit × DataW H → Nat
  | (.string bytes, d) => bytes.length + uptoBulk d + 1
  | (_, d) => uptoBulk d + 1
 end
def uptoSmall : (H : Type) → List (DataW H) → Bool := fun _ ds => decide (uptoBulkAll ds ≤ 1048576)
def OpenSpec.upto (s : _root_.Go.ChangeSpec) : _root_.Go.OpenSpec := { _root_.Go.OpenSpec.ofChange s with cond := some uptoSmall }

/-- 'ipsecgatetop.TopAlone', WHERE WHAT IT READS IS OF BULK AT MOST 1048576: true; the input reads as it did. -/
def topAloneUptoRow : OpenClaim := { program := "ytehbbcdhahnkgaagreat", sum := "6c667012b26ab200bfb6084da730450fb1cc7cc649d413c77638da1548ac98f4", func := "ipsecgate/ipsecgatetop.TopAlone", spec := "topAlone", inPlace := ["slices.overlaps[ipsecgate/api.Term]"], unfollowed := true, recurses := true, apart := false, narrowed := true }
def TopAloneUptoSaid : Prop := topAloneUptoRow.holds Tryz.pinned (OpenSpec.upto topAloneSpec)

/-- 'ipsecgatetop.TopEnds', WHERE WHAT IT READS IS OF BULK AT MOST 1048576: true; the input reads as it did. -/
def topEndsUptoRow : OpenClaim := { program := "ytehbbcdhahnkgaagreat", sum := "6c667012b26ab200bfb6084da730450fb1cc7cc649d413c77638da1548ac98f4", func := "ipsecgate/ipsecgatetop.TopEnds", spec := "topEnds", inPlace := ["slices.overlaps[ipsecgate/api.Term]"], unfollowed := true, recurses := true, apart := false, narrowed := true }
def TopEndsUptoSaid : Prop := topEndsUptoRow.holds Tryz.pinned (OpenSpec.upto topEndsSpec)

/-- 'ipsecgatetop.TopMoves', WHERE WHAT IT READS IS OF BULK AT MOST 1048576: true; the input reads as it did. -/
def topMovesUptoRow : OpenClaim := { program := "ytehbbcdhahnkgaagreat", sum := "6c667012b26ab200bfb6084da730450fb1cc7cc649d413c77638da1548ac98f4", func := "ipsecgate/ipsecgatetop.TopMoves", spec := "topMoves", inPlace := ["slices.overlaps[ipsecgate/api.Term]"], unfollowed := true, recurses := true, apart := false, narrowed := true }
def TopMovesUptoSaid : Prop := topMovesUptoRow.holds Tryz.pinned (OpenSpec.upto topMovesSpec)

/-- 'ipsecgatetop.TopResumes', WHERE WHAT IT READS IS OF BULK AT MOST 1048576: true; the input reads as it did. -/
def topResumesUptoRow : OpenClaim := { program := "ytehbbcdhahnkgaagreat", sum := "6c667012b26ab200bfb6084da730450fb1cc7cc649d413c77638da1548ac98f4", func := "ipsecgate/ipsecgatetop.TopResumes", spec := "topResumes", inPlace := ["slices.overlaps[ipsecgate/api.Term]"], unfollowed := true, recurses := true, apart := false, narrowed := true }
def TopResumesUptoSaid : Prop := topResumesUptoRow.holds Tryz.pinned (OpenSpec.upto topResumesSpec)

end Rows
end Go.Proofs.YtehbbcdhahnkgaaGreat
