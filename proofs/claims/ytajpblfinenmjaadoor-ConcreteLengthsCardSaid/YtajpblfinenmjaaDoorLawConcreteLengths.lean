/- The law ConcreteLengths: the program's text returns true for every input. -/
import Derived.Test.YtajpblfinenmjaaDoorRows
import Derived.Test.YtajpblfinenmjaaDoorGmWalk
import Derived.Test.YtajpblfinenmjaaDoorFrame
import Derived.Test.YtajpblfinenmjaaDoorFnvConcreteLengthsA
import Derived.Test.YtajpblfinenmjaaDoorPlConcreteLengthsA
import Derived.Test.YtajpblfinenmjaaDoorCards
import Derived.Test.YtajpblfinenmjaaDoorTie
import Derived.Test.YtajpblfinenmjaaDoorClQGlobCl
import Derived.WalkKit
import Derived.ProofKit
import Derived.OpenShut
import Derived.ShutString
import Derived.ChangeOld
import Derived.Below
import Derived.Deep.DeepHandedRow
import Derived.LaidMore
namespace Go.Proofs.YtajpblfinenmjaaDoor.lawConcreteLengths
open Go.ChangeShapes Go.WideShapes Go.ChangeAt Go.RowKit
open Go.ChangeMaps (open_string shut_string)
set_option linter.unusedVariables false

theorem own : ownKnob Tryd.prog.godebug = none := by kernel_rfl
theorem laidOut : laidOutB Tryd.prog = true := by kernel_rfl
theorem door_met (os : Os) (args : Array Value) : laidMetH Tryd.prog Rows.concreteLengthsRow.laid ((World.doorLaid Tryd.prog 400 os).forCall (fun _ _ => 0) ⟨#[], args, []⟩).memory :=
  laidMetH_of_parts3 (fuel := 8) (laidMet_of_run' 8 (by kernel_rfl) (by kernel_rfl)) (by kernel_rfl) (by kernel_rfl)
set_option maxRecDepth 100000 in
theorem lifted (os : Os) (started : os.Started) (H : Type) (enc : TypeId × Value → H) :
    ReturnsInHanded {} Tryd.checked os 4 .any (fun w args => (Rows.concreteLengthsSpec.pre enc Tryd.prog Tryd.f4 Rows.concreteLengthsRow.domain false w args ∧ laidMetH Tryd.prog Rows.concreteLengthsRow.laid w) ∧ sizedMet enc Tryd.prog Tryd.f4 (OpenSpec.ofChange Rows.concreteLengthsSpec) false w args)
      (Rows.concreteLengthsSpec.post enc Tryd.prog Tryd.f4 false true false false) := by
  refine returnsInHanded_of_change_and (C := Tryd.checked) (X := fun w _ => laidMetH Tryd.prog Rows.concreteLengthsRow.laid w) (fun _ _ _ hh h => h.of_heap hh) own started (by kernel_rfl) Tryd.func4
    (ChangeSpec.witness_shaped (enc := enc) (C := Tryd.checked) (os := os) (X := fun w _ => laidMetH Tryd.prog Rows.concreteLengthsRow.laid w) false (World.doorLaid Tryd.prog 400 os) #[.slice none 0 0] 8 rfl (World.shaped_of_RefB (by kernel_rfl) (by kernel_rfl)) (by kernel_rfl) (by kernel_rfl) (by kernel_rfl) (door_met os _)) ?_
  intro W base args ds gs before hval0 hW _ hsz hL _
  have hval : ∀ (j : Nat) t v, Tryd.f4.params[j]? = some t → args[j]? = some v → Value.okWide Tryd.prog W .any base t v := hval0
  have hW' := hW
  obtain ⟨p, q, hA0, hV, rfl, hfz, hnd⟩ := hW
  have hA : DataW.TrodAll enc Tryd.prog W 0 (fun _ => true) true Tryd.f4.params.toList args.toList ds p := hA0
  rw [Tryd.params4] at hA hval hsz
  obtain ⟨v0, vs0, d0, ds0, p0, q0, hargs, rfl, rfl, h0, r0⟩ := trodAll_cons hA
  obtain ⟨rfl, rfl, rfl⟩ := trodAll_nil r0
  obtain rfl : args = #[v0] := by cases args; simp_all
  obtain ⟨rfl, rfl⟩ := trodVars_none hV
  obtain ⟨a0, len0, cap0, rfl⟩ := okWide_slice Tryd.underlying22 (hval 0 22 v0 rfl rfl)
  have k0 := h0
  have lt0 : ∀ x ∈ p0, x.block < W.heap.size := by obtain ⟨m, hm⟩ := k0; exact DataW.trod_lt m _ _ _ hm
  obtain ⟨l0, rd0, nc0, mx0⟩ := rd_of_bytes h0
  clear hA0 hval0
  have walk : Calls Tryd.prog 4 #[.slice a0 len0 cap0] W fun e w' => e = .returned (.bool true) ∧ Ext W w' :=
    (law_walk (ks := [.val (.sl .u8)]) (globs := G_globs) (F := fun y => law44_ConcreteLengths 18446744073709551616 y.1.1) (law44_ConcreteLengths_ok 18446744073709551616) (w := W) (args := [.slice a0 len0 cap0]) (x := (l0, ())) rfl ⟨vr (sr_bytes rd0 nc0 mx0), trivial⟩ (by simp [stKs, GV.ids, SV.ids]) (Pl.globs_ok hL) (Pl.lengths_all l0 (len_of rd0 nc0 mx0))).mono fun e w' ⟨h1, h2⟩ => ⟨h1, ext_of h2⟩
  refine walk.mono fun e W' ⟨he, bel⟩ => ?_
  subst he
  have bel : Below W.heap.size W W' := bel
  exact ⟨_, rfl, _, _, _, [], _, [], hW', trodAll_mk1 (shut_bool Tryd.underlying4 _), (trodAll_cons_mk (Below.trod laidOut (by kernel_rfl) (of_decide_eq_true (by kernel_rfl)) k0 bel lt0) trodAll_mk0), rfl, bel.frame _, fun h => by cases h⟩

theorem both {a b : Bool} (h : a = true) (h' : b = true) : (a && b) = true := by rw [h, h']; rfl
theorem fact0 : (Rows.concreteLengthsRow.wf (OpenSpec.ofChange Rows.concreteLengthsSpec)) = true := by kernel_rfl
theorem fact1 : (laidOutB Tryd.pinned.checked.prog) = true := by kernel_rfl
theorem fact2 : (mapsRowed Tryd.pinned.checked.prog) = true := by kernel_rfl
theorem fact3 : (Tryd.f4.params.all (Tryd.pinned.checked.prog.readableRec ·)) = true := by kernel_rfl
theorem fact4 : (namedTie Tryd.pinned.checked.prog Rows.concreteLengthsRow.named Rows.concreteLengthsSpec.vars) = true := by kernel_rfl
theorem fact5 : (Rows.concreteLengthsRow.stops == []) = true := by kernel_rfl
theorem fact6 : (Tryd.pinned.checked.prog.stops == []) = true := by kernel_rfl
theorem fact7 : (Rows.concreteLengthsRow.knobs == []) = true := by kernel_rfl
theorem fact8 : (Tryd.pinned.checked.prog.stopKnobs == []) = true := by kernel_rfl
theorem fact9 : (Rows.concreteLengthsRow.inPlace == Tryd.pinned.checked.prog.inPlace 4) = true := by kernel_rfl
theorem fact10 : (Rows.concreteLengthsRow.unfollowed == Tryd.pinned.checked.prog.unfollowed 4) = true := by kernel_rfl
theorem fact11 : (Rows.concreteLengthsRow.recurses == Tryd.pinned.checked.prog.recurses 4) = true := by kernel_rfl
theorem fact12 : (Rows.concreteLengthsRow.named == Tryd.pinned.checked.prog.varsNamed 4) = true := by kernel_rfl
theorem fact13 : (Rows.concreteLengthsRow.maps == (Tryd.f4.params.toList ++ Rows.concreteLengthsSpec.plain.varTypes Tryd.pinned.checked.prog).any (Tryd.pinned.checked.prog.mapsRec ·)) = true := by kernel_rfl
theorem fact14 : (Rows.concreteLengthsRow.ifaces == (Tryd.f4.params.toList ++ Rows.concreteLengthsSpec.plain.varTypes Tryd.pinned.checked.prog).any (Tryd.pinned.checked.prog.ifacesRec ·)) = true := by kernel_rfl
theorem fact15 : (Rows.concreteLengthsRow.mapsOut == Tryd.pinned.checked.prog.mapsAmong Tryd.f4.resultTypes.toList) = true := by kernel_rfl
theorem fact16 : (Rows.concreteLengthsRow.loops == (Tryd.f4.params.toList ++ Rows.concreteLengthsSpec.plain.varTypes Tryd.pinned.checked.prog).any (Tryd.pinned.checked.prog.loopsFrom ·)) = true := by kernel_rfl
theorem fact17 : (Rows.concreteLengthsRow.wideKeys == (Tryd.f4.params.toList ++ Rows.concreteLengthsSpec.plain.varTypes Tryd.pinned.checked.prog ++ Tryd.f4.resultTypes.toList).any (Tryd.pinned.checked.prog.wideKeysFrom ·)) = true := by kernel_rfl
theorem fact18 : (Rows.concreteLengthsSpec.vars.all (Tryd.pinned.checked.prog.varReadable ·)) = true := by kernel_rfl
theorem fact19 : (Tryd.f4.resultTypes.all (fun t => Tryd.pinned.checked.prog.readableRec t && decide (t < Tryd.pinned.checked.prog.types.size))) = true := by kernel_rfl
theorem fact20 : (Rows.concreteLengthsRow.ifacesOut == Tryd.f4.resultTypes.toList.any (Tryd.pinned.checked.prog.ifacesRec ·)) = true := by kernel_rfl
theorem fact21 : (Rows.concreteLengthsRow.loopsOut == Tryd.f4.resultTypes.toList.any (Tryd.pinned.checked.prog.loopsFrom ·)) = true := by kernel_rfl
theorem fact22 : (Rows.concreteLengthsRow.plainKeys == Tryd.pinned.checked.prog.plainKeys) = true := by kernel_rfl
theorem fact23 : (Rows.concreteLengthsRow.shortTexts.isNone) = true := by kernel_rfl
theorem fact24 : (Tryd.pinned.checked.prog.stopsHeard) = true := by kernel_rfl
theorem fact25 : (Tryd.pinned.checked.prog.mayEnter) = true := by kernel_rfl
theorem fact26 : (Rows.concreteLengthsRow.lifted == Tryd.pinned.checked.prog.liftsFinal) = true := by kernel_rfl
theorem fact27 : (Tryd.pinned.checked.prog.make == some Rows.concreteLengthsRow.make) = true := by kernel_rfl
theorem fact28 : (Rows.concreteLengthsRow.kinds == (if Rows.concreteLengthsRow.domain.isEmpty then [] else Tryd.f4.params.toList.map fun t => match Tryd.pinned.checked.prog.underlying t with | some (.int k) => some k | _ => none)) = true := by kernel_rfl
theorem fact29 : (Rows.concreteLengthsRow.pinned == Rows.concreteLengthsRow.pinnedBy) = true := by kernel_rfl
theorem fact30 : (Rows.concreteLengthsRow.veiled == (Tryd.f4.params.toList ++ Rows.concreteLengthsSpec.plain.varTypes Tryd.pinned.checked.prog ++ Tryd.f4.resultTypes.toList).any (Tryd.pinned.checked.prog.veiledRec ·)) = true := by kernel_rfl
theorem fact31 : (Rows.concreteLengthsRow.veiledFits Tryd.pinned.checked.prog Tryd.f4.params.toList (Tryd.f4.params.toList ++ Rows.concreteLengthsSpec.plain.varTypes Tryd.pinned.checked.prog ++ Tryd.f4.resultTypes.toList)) = true := by kernel_rfl
set_option maxRecDepth 100000 in
theorem joined : joinedFacts Tryd.pinned.checked.prog 4 Tryd.f4 Rows.concreteLengthsSpec Rows.concreteLengthsRow = true := by
  unfold joinedFacts
  exact (both (both (both (both (both (both (both (both (both (both (both (both (both (both (both (both (both (both (both (both (both (both (both (both (both (both (both (both (both (both (both fact0 fact1) fact2) fact3) fact4) fact5) fact6) fact7) fact8) fact9) fact10) fact11) fact12) fact13) fact14) fact15) fact16) fact17) fact18) fact19) fact20) fact21) fact22) fact23) fact24) fact25) fact26) fact27) fact28) fact29) fact30) fact31)

theorem over : Rows.concreteLengthsRow.holds Tryd.pinned (OpenSpec.ofChange Rows.concreteLengthsSpec) :=
  OpenClaim.holds_of_wide 4 Tryd.f4 rfl rfl rfl rfl rfl rfl rfl ⟨rfl, rfl, rfl, rfl, rfl⟩ rfl rfl rfl rfl rfl (by kernel_rfl) Tryd.func4 joined
    (of_decide_eq_true (by kernel_rfl)) (by unfold Func.isWrapper; first | (rw [if_pos (by decide +kernel)]; kernel_rfl) | (rw [if_neg (by decide +kernel)]; exact ⟨rfl, rfl⟩))
    (fun os started H enc _ => lifted os started H enc)

theorem plain (f : FuncId) (fn : Func) (hf : Tryd.pinned.checked.prog.funcNamed "ipsecgate/ipsecgatelaw44.ConcreteLengths" = some f) (hfn : Tryd.pinned.checked.prog.funcs[f]? = some fn) :
    true = Tryd.pinned.checked.prog.looks [] ∧ ∀ (j : Nat) t, fn.params[j]? = some t → Tryd.pinned.checked.prog.wantsStandIn t = false := by
  obtain rfl : f = 4 := Option.some.inj ((show Tryd.prog.funcNamed "ipsecgate/ipsecgatelaw44.ConcreteLengths" = some 4 by kernel_rfl).symm.trans hf) |>.symm
  obtain rfl : fn = Tryd.f4 := (Option.some.inj (Tryd.func4.symm.trans hfn)).symm
  refine ⟨by kernel_rfl, fun j t ht => ?_⟩
  rw [Tryd.params4] at ht
  have hm : t ∈ [22] := by simpa using Array.mem_of_getElem? ht
  have hall : ([22].all fun u => !Tryd.prog.wantsStandIn u) = true := by kernel_rfl
  exact (show Tryd.prog.wantsStandIn t = false by simpa using List.all_eq_true.1 hall t hm)
theorem proved : Rows.ConcreteLengthsCardSaid :=
  Claim7.holds_tied_plain_at .later [] _ _ _ _ over (fun _ h => by cases h) (by kernel_rfl) (fun _ h => by cases h) concreteLengths_row_tie rfl ⟨rfl, rfl⟩ (by kernel_rfl) rfl plain (by kernel_rfl)
end Go.Proofs.YtajpblfinenmjaaDoor.lawConcreteLengths
