/- The law ConcreteReturns: the program's text zw5g true for every input. -/
import Derived.Test.YtajpblfinenmjaaGreatDoorRows
import Derived.Test.YtajpblfinenmjaaGreatDoorGmZ
import Derived.Test.YtajpblfinenmjaaGreatDoorFrameX
import Derived.Test.YtajpblfinenmjaaGreatDoorFnvConcreteReturnsA
import Derived.Test.YtajpblfinenmjaaGreatDoorPlConcreteReturnsB
import Derived.Test.YtajpblfinenmjaaGreatDoorCards
import Derived.Test.YtajpblfinenmjaaGreatDoorTie
import Derived.Test.YtajpblfinenmjaaGreatDoorCrQGlobCr
import Derived.WalkKit
import Derived.ProofKit
import Derived.OpenShut
import Derived.ShutString
import Derived.ChangeOld
import Derived.Below
import Derived.Deep.DeepHandedRow
import Derived.LaidMore
namespace Go.Proofs.YtajpblfinenmjaaGreatDoor.lawConcreteReturns
open Go.ChangeShapes Go.WideShapes Go.ChangeAt Go.RowKit
open Go.ChangeMaps (open_string shut_string)
set_option linter.unusedVariables false

theorem own : ownKnob Tryz.prog.godebug = none := by kernel_rfl
theorem laidOut : laidOutB Tryz.prog = true := by kernel_rfl
theorem door_met (os : Os) (args : Array Value) : laidMetH Tryz.prog Rows.concreteReturnsRow.laid ((World.doorLaid Tryz.prog 400 os).forCall (fun _ _ => 0) ⟨#[], args, []⟩).memory :=
  laidMetH_of_parts3 (fuel := 8) (laidMet_of_run' 8 (by kernel_rfl) (by kernel_rfl)) (by kernel_rfl) (by kernel_rfl)
set_option maxRecDepth 100000 in
theorem lifted (os : Os) (started : os.Started) (H : Type) (enc : TypeId × Value → H) :
    ReturnsInHanded {} Tryz.checked os 4 .any (fun w args => (Rows.concreteReturnsSpec.pre enc Tryz.prog Tryz.f4 Rows.concreteReturnsRow.domain false w args ∧ laidMetH Tryz.prog Rows.concreteReturnsRow.laid w) ∧ sizedMet enc Tryz.prog Tryz.f4 (OpenSpec.ofChange Rows.concreteReturnsSpec) false w args)
      (Rows.concreteReturnsSpec.post enc Tryz.prog Tryz.f4 false true false false) := by
  refine returnsInHanded_of_change_and (C := Tryz.checked) (X := fun w _ => laidMetH Tryz.prog Rows.concreteReturnsRow.laid w) (fun _ _ _ hh h => h.of_heap hh) own started (by kernel_rfl) Tryz.func4
    (ChangeSpec.witness_shaped (enc := enc) (C := Tryz.checked) (os := os) (X := fun w _ => laidMetH Tryz.prog Rows.concreteReturnsRow.laid w) false (World.doorLaid Tryz.prog 400 os) #[.slice none 0 0] 8 rfl (World.shaped_of_RefB (by kernel_rfl) (by kernel_rfl)) (by kernel_rfl) (by kernel_rfl) (by kernel_rfl) (door_met os _)) ?_
  intro W base args ds gs before hval0 hW _ hsz hL _
  have hval : ∀ (j : Nat) t v, Tryz.f4.params[j]? = some t → args[j]? = some v → Value.okWide Tryz.prog W .any base t v := hval0
  have hW' := hW
  obtain ⟨p, q, hA0, hV, rfl, hfz, hnd⟩ := hW
  have hA : DataW.TrodAll enc Tryz.prog W 0 (fun _ => true) true Tryz.f4.params.toList args.toList ds p := hA0
  rw [Tryz.params4] at hA hval hsz
  obtain ⟨v0, vs0, d0, ds0, p0, q0, hargs, rfl, rfl, h0, r0⟩ := trodAll_cons hA
  obtain ⟨rfl, rfl, rfl⟩ := trodAll_nil r0
  obtain rfl : args = #[v0] := by cases args; simp_all
  obtain ⟨rfl, rfl⟩ := trodVars_none hV
  obtain ⟨a0, len0, cap0, rfl⟩ := okWide_slice Tryz.underlying25 (hval 0 25 v0 rfl rfl)
  have k0 := h0
  have lt0 : ∀ x ∈ p0, x.block < W.heap.size := by obtain ⟨m, hm⟩ := k0; exact DataW.trod_lt m _ _ _ hm
  obtain ⟨l0, rd0, nc0, mx0⟩ := zwe9 h0
  clear hA0 hval0
  have walk : Calls Tryz.prog 4 #[.slice a0 len0 cap0] W fun e w' => e = .returned (.bool true) ∧ Ext W w' :=
    (zwe4 (ks := [.val (.sl .u8)]) (globs := zwi) (F := fun y => zq10 18446744073709551616 y.1.1) (zq10_ok 18446744073709551616) (w := W) (args := [.slice a0 len0 cap0]) (x := (l0, ())) rfl ⟨vr (zwe7 rd0 nc0 mx0), trivial⟩ (by simp [stKs, GV.ids, SV.ids]) (Pl.zwk9 hL) (Pl.zwk3 l0 (len_of rd0 nc0 mx0))).mono fun e w' ⟨h1, h2⟩ => ⟨h1, ext_of h2⟩
  refine walk.mono fun e W' ⟨he, bel⟩ => ?_
  subst he
  have bel : Below W.heap.size W W' := bel
  exact ⟨_, rfl, _, _, _, [], _, [], hW', trodAll_mk1 (shut_bool Tryz.underlying4 _), (trodAll_cons_mk (Below.trod laidOut (by kernel_rfl) (of_decide_eq_true (by kernel_rfl)) k0 bel lt0) trodAll_mk0), rfl, bel.frame _, fun h => by cases h⟩

theorem both {a b : Bool} (h : a = true) (h' : b = true) : (a && b) = true := by rw [h, h']; rfl
theorem fact0 : (Rows.concreteReturnsRow.wf (OpenSpec.ofChange Rows.concreteReturnsSpec)) = true := by kernel_rfl
theorem fact1 : (laidOutB Tryz.pinned.checked.prog) = true := by kernel_rfl
theorem fact2 : (mapsRowed Tryz.pinned.checked.prog) = true := by kernel_rfl
theorem fact3 : (Tryz.f4.params.all (Tryz.pinned.checked.prog.readableRec ·)) = true := by kernel_rfl
theorem fact4 : (namedTie Tryz.pinned.checked.prog Rows.concreteReturnsRow.named Rows.concreteReturnsSpec.vars) = true := by kernel_rfl
theorem fact5 : (Rows.concreteReturnsRow.stops == []) = true := by kernel_rfl
theorem fact6 : (Tryz.pinned.checked.prog.stops == []) = true := by kernel_rfl
theorem fact7 : (Rows.concreteReturnsRow.knobs == []) = true := by kernel_rfl
theorem fact8 : (Tryz.pinned.checked.prog.stopKnobs == []) = true := by kernel_rfl
theorem fact9 : (Rows.concreteReturnsRow.inPlace == Tryz.pinned.checked.prog.inPlace 4) = true := by kernel_rfl
theorem fact10 : (Rows.concreteReturnsRow.unfollowed == Tryz.pinned.checked.prog.unfollowed 4) = true := by kernel_rfl
theorem fact11 : (Rows.concreteReturnsRow.recurses == Tryz.pinned.checked.prog.recurses 4) = true := by kernel_rfl
theorem fact12 : (Rows.concreteReturnsRow.named == Tryz.pinned.checked.prog.varsNamed 4) = true := by kernel_rfl
theorem fact13 : (Rows.concreteReturnsRow.maps == (Tryz.f4.params.toList ++ Rows.concreteReturnsSpec.plain.varTypes Tryz.pinned.checked.prog).any (Tryz.pinned.checked.prog.mapsRec ·)) = true := by kernel_rfl
theorem fact14 : (Rows.concreteReturnsRow.ifaces == (Tryz.f4.params.toList ++ Rows.concreteReturnsSpec.plain.varTypes Tryz.pinned.checked.prog).any (Tryz.pinned.checked.prog.ifacesRec ·)) = true := by kernel_rfl
theorem fact15 : (Rows.concreteReturnsRow.mapsOut == Tryz.pinned.checked.prog.mapsAmong Tryz.f4.resultTypes.toList) = true := by kernel_rfl
theorem fact16 : (Rows.concreteReturnsRow.loops == (Tryz.f4.params.toList ++ Rows.concreteReturnsSpec.plain.varTypes Tryz.pinned.checked.prog).any (Tryz.pinned.checked.prog.loopsFrom ·)) = true := by kernel_rfl
theorem fact17 : (Rows.concreteReturnsRow.wideKeys == (Tryz.f4.params.toList ++ Rows.concreteReturnsSpec.plain.varTypes Tryz.pinned.checked.prog ++ Tryz.f4.resultTypes.toList).any (Tryz.pinned.checked.prog.wideKeysFrom ·)) = true := by kernel_rfl
theorem fact18 : (Rows.concreteReturnsSpec.vars.all (Tryz.pinned.checked.prog.varReadable ·)) = true := by kernel_rfl
theorem fact19 : (Tryz.f4.resultTypes.all (fun t => Tryz.pinned.checked.prog.readableRec t && decide (t < Tryz.pinned.checked.prog.types.size))) = true := by kernel_rfl
theorem fact20 : (Rows.concreteReturnsRow.ifacesOut == Tryz.f4.resultTypes.toList.any (Tryz.pinned.checked.prog.ifacesRec ·)) = true := by kernel_rfl
theorem fact21 : (Rows.concreteReturnsRow.loopsOut == Tryz.f4.resultTypes.toList.any (Tryz.pinned.checked.prog.loopsFrom ·)) = true := by kernel_rfl
theorem fact22 : (Rows.concreteReturnsRow.plainKeys == Tryz.pinned.checked.prog.plainKeys) = true := by kernel_rfl
theorem fact23 : (Rows.concreteReturnsRow.shortTexts.isNone) = true := by kernel_rfl
theorem fact24 : (Tryz.pinned.checked.prog.stopsHeard) = true := by kernel_rfl
theorem fact25 : (Tryz.pinned.checked.prog.mayEnter) = true := by kernel_rfl
theorem fact26 : (Rows.concreteReturnsRow.lifted == Tryz.pinned.checked.prog.liftsFinal) = true := by kernel_rfl
theorem fact27 : (Tryz.pinned.checked.prog.make == some Rows.concreteReturnsRow.make) = true := by kernel_rfl
theorem fact28 : (Rows.concreteReturnsRow.kinds == (if Rows.concreteReturnsRow.domain.isEmpty then [] else Tryz.f4.params.toList.map fun t => match Tryz.pinned.checked.prog.underlying t with | some (.int k) => some k | _ => none)) = true := by kernel_rfl
theorem fact29 : (Rows.concreteReturnsRow.pinned == Rows.concreteReturnsRow.pinnedBy) = true := by kernel_rfl
theorem fact30 : (Rows.concreteReturnsRow.veiled == (Tryz.f4.params.toList ++ Rows.concreteReturnsSpec.plain.varTypes Tryz.pinned.checked.prog ++ Tryz.f4.resultTypes.toList).any (Tryz.pinned.checked.prog.veiledRec ·)) = true := by kernel_rfl
theorem fact31 : (Rows.concreteReturnsRow.veiledFits Tryz.pinned.checked.prog Tryz.f4.params.toList (Tryz.f4.params.toList ++ Rows.concreteReturnsSpec.plain.varTypes Tryz.pinned.checked.prog ++ Tryz.f4.resultTypes.toList)) = true := by kernel_rfl
set_option maxRecDepth 100000 in
theorem joined : joinedFacts Tryz.pinned.checked.prog 4 Tryz.f4 Rows.concreteReturnsSpec Rows.concreteReturnsRow = true := by
  unfold joinedFacts
  exact (both (both (both (both (both (both (both (both (both (both (both (both (both (both (both (both (both (both (both (both (both (both (both (both (both (both (both (both (both (both (both fact0 fact1) fact2) fact3) fact4) fact5) fact6) fact7) fact8) fact9) fact10) fact11) fact12) fact13) fact14) fact15) fact16) fact17) fact18) fact19) fact20) fact21) fact22) fact23) fact24) fact25) fact26) fact27) fact28) fact29) fact30) fact31)

theorem over : Rows.concreteReturnsRow.holds Tryz.pinned (OpenSpec.ofChange Rows.concreteReturnsSpec) :=
  OpenClaim.holds_of_wide 4 Tryz.f4 rfl rfl rfl rfl rfl rfl rfl ⟨rfl, rfl, rfl, rfl, rfl⟩ rfl rfl rfl rfl rfl (by kernel_rfl) Tryz.func4 joined
    (of_decide_eq_true (by kernel_rfl)) (by unfold Func.isWrapper; first | (rw [if_pos (by decide +kernel)]; kernel_rfl) | (rw [if_neg (by decide +kernel)]; exact ⟨rfl, rfl⟩))
    (fun os started H enc _ => lifted os started H enc)

theorem plain (f : FuncId) (fn : Func) (hf : Tryz.pinned.checked.prog.funcNamed "ipsecgate/ipsecgatelaw44.ConcreteReturns" = some f) (hfn : Tryz.pinned.checked.prog.funcs[f]? = some fn) :
    true = Tryz.pinned.checked.prog.looks [] ∧ ∀ (j : Nat) t, fn.params[j]? = some t → Tryz.pinned.checked.prog.wantsStandIn t = false := by
  obtain rfl : f = 4 := Option.some.inj ((show Tryz.prog.funcNamed "ipsecgate/ipsecgatelaw44.ConcreteReturns" = some 4 by kernel_rfl).symm.trans hf) |>.symm
  obtain rfl : fn = Tryz.f4 := (Option.some.inj (Tryz.func4.symm.trans hfn)).symm
  refine ⟨by kernel_rfl, fun j t ht => ?_⟩
  rw [Tryz.params4] at ht
  have hm : t ∈ [25] := by simpa using Array.mem_of_getElem? ht
  have hall : ([25].all fun u => !Tryz.prog.wantsStandIn u) = true := by kernel_rfl
  exact (show Tryz.prog.wantsStandIn t = false by simpa using List.all_eq_true.1 hall t hm)
theorem proved : Rows.ConcreteReturnsCardSaid :=
  Claim7.holds_tied_plain_at .later [] _ _ _ _ over (fun _ h => by cases h) (by kernel_rfl) (fun _ h => by cases h) concreteReturns_row_tie rfl ⟨rfl, rfl⟩ (by kernel_rfl) rfl plain (by kernel_rfl)
end Go.Proofs.YtajpblfinenmjaaGreatDoor.lawConcreteReturns
