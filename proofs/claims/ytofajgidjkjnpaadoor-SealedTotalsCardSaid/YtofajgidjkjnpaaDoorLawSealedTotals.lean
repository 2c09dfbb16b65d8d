/- The law SealedTotals: the program's text returns true for every input. -/
import Derived.Test.YtofajgidjkjnpaaDoorRows
import Derived.Test.YtofajgidjkjnpaaDoorGmWalk
import Derived.Test.YtofajgidjkjnpaaDoorFrame
import Derived.Test.YtofajgidjkjnpaaDoorFnuSealedTotalsA
import Derived.Test.YtofajgidjkjnpaaDoorStQSlT
import Derived.Test.YtofajgidjkjnpaaDoorCards
import Derived.Test.YtofajgidjkjnpaaDoorTie
import Derived.Test.YtofajgidjkjnpaaDoorStQGlobEs
import Derived.WalkKit
import Derived.ProofKit
import Derived.OpenShut
import Derived.ShutString
import Derived.ChangeOld
import Derived.Below
import Derived.Deep.DeepHandedRow
import Derived.LaidMore
namespace Go.Proofs.YtofajgidjkjnpaaDoor.lawSealedTotals
open Go.ChangeShapes Go.WideShapes Go.ChangeAt Go.RowKit
open Go.ChangeMaps (open_string shut_string)
set_option linter.unusedVariables false

theorem own : ownKnob Tryd.prog.godebug = none := by kernel_rfl
theorem laidOut : laidOutB Tryd.prog = true := by kernel_rfl
theorem door_met (os : Os) (args : Array Value) : laidMetH Tryd.prog Rows.sealedTotalsRow.laid ((World.doorLaid Tryd.prog 400 os).forCall (fun _ _ => 0) ⟨#[], args, []⟩).memory :=
  laidMetH_of_parts3 (fuel := 8) (laidMet_of_run' 8 (by kernel_rfl) (by kernel_rfl)) (by kernel_rfl) (by kernel_rfl)
set_option maxRecDepth 100000 in
theorem lifted (os : Os) (started : os.Started) (H : Type) (enc : TypeId × Value → H) :
    ReturnsInHanded {} Tryd.checked os 13 .any (fun w args => (Rows.sealedTotalsSpec.pre enc Tryd.prog Tryd.f13 Rows.sealedTotalsRow.domain false w args ∧ laidMetH Tryd.prog Rows.sealedTotalsRow.laid w) ∧ sizedMet enc Tryd.prog Tryd.f13 (OpenSpec.ofChange Rows.sealedTotalsSpec) false w args)
      (Rows.sealedTotalsSpec.post enc Tryd.prog Tryd.f13 false true false false) := by
  refine returnsInHanded_of_change_and (C := Tryd.checked) (X := fun w _ => laidMetH Tryd.prog Rows.sealedTotalsRow.laid w) (fun _ _ _ hh h => h.of_heap hh) own started (by kernel_rfl) Tryd.func13
    (ChangeSpec.witness_shaped (enc := enc) (C := Tryd.checked) (os := os) (X := fun w _ => laidMetH Tryd.prog Rows.sealedTotalsRow.laid w) false (World.doorLaid Tryd.prog 400 os) #[.int .u8 0, .int .u8 0] 8 rfl (World.shaped_of_RefB (by kernel_rfl) (by kernel_rfl)) (by kernel_rfl) (by kernel_rfl) (by kernel_rfl) (door_met os _)) ?_
  intro W base args ds gs before hval0 hW _ hsz hL _
  have hval : ∀ (j : Nat) t v, Tryd.f13.params[j]? = some t → args[j]? = some v → Value.okWide Tryd.prog W .any base t v := hval0
  have hW' := hW
  obtain ⟨p, q, hA0, hV, rfl, hfz, hnd⟩ := hW
  have hA : DataW.TrodAll enc Tryd.prog W 0 (fun _ => true) true Tryd.f13.params.toList args.toList ds p := hA0
  rw [Tryd.params13] at hA hval hsz
  obtain ⟨v0, vs0, d0, ds0, p0, q0, hargs, rfl, rfl, h0, r0⟩ := trodAll_cons hA
  obtain ⟨v1, vs1, d1, ds1, p1, q1, rfl, rfl, rfl, h1, r1⟩ := trodAll_cons r0
  obtain ⟨rfl, rfl, rfl⟩ := trodAll_nil r1
  obtain rfl : args = #[v0, v1] := by cases args; simp_all
  obtain ⟨rfl, rfl⟩ := trodVars_none hV
  obtain ⟨a0, rfl, rfl, rfl, w0⟩ := open_int Tryd.underlying5 (hval 0 5 v0 rfl rfl) h0
  obtain ⟨a1, rfl, rfl, rfl, w1⟩ := open_int Tryd.underlying5 (hval 1 5 v1 rfl rfl) h1
  clear hA0 hval0
  have walk : Calls Tryd.prog 13 #[.int .u8 a0, .int .u8 a1] W fun e w' => e = .returned (.bool true) ∧ Ext W w' :=
    (law_walk (ks := [.val .u8, .val .u8]) (globs := G_globs) (F := fun y => law17_SealedTotals 18446744073709551616 y.1.1 y.1.2.1) (law17_SealedTotals_ok 18446744073709551616) (w := W) (args := [.int .u8 a0, .int .u8 a1]) (x := ((UInt8.ofNat a0.toNat), (UInt8.ofNat a1.toNat), ())) rfl ⟨vr (sr_arg_u8 (bounds_u8 w0).1 (bounds_u8 w0).2), vr (sr_arg_u8 (bounds_u8 w1).1 (bounds_u8 w1).2), trivial⟩ (by simp [stKs, GV.ids, SV.ids]) (Pl.globs_ok hL) (Pl.totals (UInt8.ofNat a0.toNat) (UInt8.ofNat a1.toNat))).mono fun e w' ⟨h1, h2⟩ => ⟨h1, ext_of h2⟩
  refine walk.mono fun e W' ⟨he, bel⟩ => ?_
  subst he
  have bel : Below W.heap.size W W' := bel
  exact ⟨_, rfl, _, _, _, [], _, [], hW', trodAll_mk1 (shut_bool Tryd.underlying4 _), (trodAll_cons_mk (shut_int Tryd.underlying5 w0) (trodAll_cons_mk (shut_int Tryd.underlying5 w1) trodAll_mk0)), rfl, bel.frame _, fun h => by cases h⟩

theorem both {a b : Bool} (h : a = true) (h' : b = true) : (a && b) = true := by rw [h, h']; rfl
theorem fact0 : (Rows.sealedTotalsRow.wf (OpenSpec.ofChange Rows.sealedTotalsSpec)) = true := by kernel_rfl
theorem fact1 : (laidOutB Tryd.pinned.checked.prog) = true := by kernel_rfl
theorem fact2 : (mapsRowed Tryd.pinned.checked.prog) = true := by kernel_rfl
theorem fact3 : (Tryd.f13.params.all (Tryd.pinned.checked.prog.readableRec ·)) = true := by kernel_rfl
theorem fact4 : (namedTie Tryd.pinned.checked.prog Rows.sealedTotalsRow.named Rows.sealedTotalsSpec.vars) = true := by kernel_rfl
theorem fact5 : (Rows.sealedTotalsRow.stops == []) = true := by kernel_rfl
theorem fact6 : (Tryd.pinned.checked.prog.stops == []) = true := by kernel_rfl
theorem fact7 : (Rows.sealedTotalsRow.knobs == []) = true := by kernel_rfl
theorem fact8 : (Tryd.pinned.checked.prog.stopKnobs == []) = true := by kernel_rfl
theorem fact9 : (Rows.sealedTotalsRow.inPlace == Tryd.pinned.checked.prog.inPlace 13) = true := by kernel_rfl
theorem fact10 : (Rows.sealedTotalsRow.unfollowed == Tryd.pinned.checked.prog.unfollowed 13) = true := by kernel_rfl
theorem fact11 : (Rows.sealedTotalsRow.recurses == Tryd.pinned.checked.prog.recurses 13) = true := by kernel_rfl
theorem fact12 : (Rows.sealedTotalsRow.named == Tryd.pinned.checked.prog.varsNamed 13) = true := by kernel_rfl
theorem fact13 : (Rows.sealedTotalsRow.maps == (Tryd.f13.params.toList ++ Rows.sealedTotalsSpec.plain.varTypes Tryd.pinned.checked.prog).any (Tryd.pinned.checked.prog.mapsRec ·)) = true := by kernel_rfl
theorem fact14 : (Rows.sealedTotalsRow.ifaces == (Tryd.f13.params.toList ++ Rows.sealedTotalsSpec.plain.varTypes Tryd.pinned.checked.prog).any (Tryd.pinned.checked.prog.ifacesRec ·)) = true := by kernel_rfl
theorem fact15 : (Rows.sealedTotalsRow.mapsOut == Tryd.pinned.checked.prog.mapsAmong Tryd.f13.resultTypes.toList) = true := by kernel_rfl
theorem fact16 : (Rows.sealedTotalsRow.loops == (Tryd.f13.params.toList ++ Rows.sealedTotalsSpec.plain.varTypes Tryd.pinned.checked.prog).any (Tryd.pinned.checked.prog.loopsFrom ·)) = true := by kernel_rfl
theorem fact17 : (Rows.sealedTotalsRow.wideKeys == (Tryd.f13.params.toList ++ Rows.sealedTotalsSpec.plain.varTypes Tryd.pinned.checked.prog ++ Tryd.f13.resultTypes.toList).any (Tryd.pinned.checked.prog.wideKeysFrom ·)) = true := by kernel_rfl
theorem fact18 : (Rows.sealedTotalsSpec.vars.all (Tryd.pinned.checked.prog.varReadable ·)) = true := by kernel_rfl
theorem fact19 : (Tryd.f13.resultTypes.all (fun t => Tryd.pinned.checked.prog.readableRec t && decide (t < Tryd.pinned.checked.prog.types.size))) = true := by kernel_rfl
theorem fact20 : (Rows.sealedTotalsRow.ifacesOut == Tryd.f13.resultTypes.toList.any (Tryd.pinned.checked.prog.ifacesRec ·)) = true := by kernel_rfl
theorem fact21 : (Rows.sealedTotalsRow.loopsOut == Tryd.f13.resultTypes.toList.any (Tryd.pinned.checked.prog.loopsFrom ·)) = true := by kernel_rfl
theorem fact22 : (Rows.sealedTotalsRow.plainKeys == Tryd.pinned.checked.prog.plainKeys) = true := by kernel_rfl
theorem fact23 : (Rows.sealedTotalsRow.shortTexts.isNone) = true := by kernel_rfl
theorem fact24 : (Tryd.pinned.checked.prog.stopsHeard) = true := by kernel_rfl
theorem fact25 : (Tryd.pinned.checked.prog.mayEnter) = true := by kernel_rfl
theorem fact26 : (Rows.sealedTotalsRow.lifted == Tryd.pinned.checked.prog.liftsFinal) = true := by kernel_rfl
theorem fact27 : (Tryd.pinned.checked.prog.make == some Rows.sealedTotalsRow.make) = true := by kernel_rfl
theorem fact28 : (Rows.sealedTotalsRow.kinds == (if Rows.sealedTotalsRow.domain.isEmpty then [] else Tryd.f13.params.toList.map fun t => match Tryd.pinned.checked.prog.underlying t with | some (.int k) => some k | _ => none)) = true := by kernel_rfl
theorem fact29 : (Rows.sealedTotalsRow.pinned == Rows.sealedTotalsRow.pinnedBy) = true := by kernel_rfl
theorem fact30 : (Rows.sealedTotalsRow.veiled == (Tryd.f13.params.toList ++ Rows.sealedTotalsSpec.plain.varTypes Tryd.pinned.checked.prog ++ Tryd.f13.resultTypes.toList).any (Tryd.pinned.checked.prog.veiledRec ·)) = true := by kernel_rfl
theorem fact31 : (Rows.sealedTotalsRow.veiledFits Tryd.pinned.checked.prog Tryd.f13.params.toList (Tryd.f13.params.toList ++ Rows.sealedTotalsSpec.plain.varTypes Tryd.pinned.checked.prog ++ Tryd.f13.resultTypes.toList)) = true := by kernel_rfl
set_option maxRecDepth 100000 in
theorem joined : joinedFacts Tryd.pinned.checked.prog 13 Tryd.f13 Rows.sealedTotalsSpec Rows.sealedTotalsRow = true := by
  unfold joinedFacts
  exact (both (both (both (both (both (both (both (both (both (both (both (both (both (both (both (both (both (both (both (both (both (both (both (both (both (both (both (both (both (both (both fact0 fact1) fact2) fact3) fact4) fact5) fact6) fact7) fact8) fact9) fact10) fact11) fact12) fact13) fact14) fact15) fact16) fact17) fact18) fact19) fact20) fact21) fact22) fact23) fact24) fact25) fact26) fact27) fact28) fact29) fact30) fact31)

theorem over : Rows.sealedTotalsRow.holds Tryd.pinned (OpenSpec.ofChange Rows.sealedTotalsSpec) :=
  OpenClaim.holds_of_wide 13 Tryd.f13 rfl rfl rfl rfl rfl rfl rfl ⟨rfl, rfl, rfl, rfl, rfl⟩ rfl rfl rfl rfl rfl (by kernel_rfl) Tryd.func13 joined
    (of_decide_eq_true (by kernel_rfl)) (by unfold Func.isWrapper; first | (rw [if_pos (by decide +kernel)]; kernel_rfl) | (rw [if_neg (by decide +kernel)]; exact ⟨rfl, rfl⟩))
    (fun os started H enc _ => lifted os started H enc)

theorem plain (f : FuncId) (fn : Func) (hf : Tryd.pinned.checked.prog.funcNamed "ipsecgate/ipsecgatelaw17.SealedTotals" = some f) (hfn : Tryd.pinned.checked.prog.funcs[f]? = some fn) :
    false = Tryd.pinned.checked.prog.looks [] ∧ ∀ (j : Nat) t, fn.params[j]? = some t → Tryd.pinned.checked.prog.wantsStandIn t = false := by
  obtain rfl : f = 13 := Option.some.inj ((show Tryd.prog.funcNamed "ipsecgate/ipsecgatelaw17.SealedTotals" = some 13 by kernel_rfl).symm.trans hf) |>.symm
  obtain rfl : fn = Tryd.f13 := (Option.some.inj (Tryd.func13.symm.trans hfn)).symm
  refine ⟨by kernel_rfl, fun j t ht => ?_⟩
  rw [Tryd.params13] at ht
  have hm : t ∈ [5, 5] := by simpa using Array.mem_of_getElem? ht
  have hall : ([5, 5].all fun u => !Tryd.prog.wantsStandIn u) = true := by kernel_rfl
  exact (show Tryd.prog.wantsStandIn t = false by simpa using List.all_eq_true.1 hall t hm)
theorem proved : Rows.SealedTotalsCardSaid :=
  Claim7.holds_tied_plain_at .later [] _ _ _ _ over (fun _ h => by cases h) (by kernel_rfl) (fun _ h => by cases h) sealedTotals_row_tie rfl ⟨rfl, rfl⟩ (by kernel_rfl) rfl plain (by kernel_rfl)
end Go.Proofs.YtofajgidjkjnpaaDoor.lawSealedTotals
