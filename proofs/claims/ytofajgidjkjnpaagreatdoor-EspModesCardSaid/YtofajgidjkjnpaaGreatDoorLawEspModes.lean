/- The law EspModes: the program's text returns true for every input. -/
import Derived.Test.YtofajgidjkjnpaaGreatDoorRows
import Derived.Test.YtofajgidjkjnpaaGreatDoorGmWalk
import Derived.Test.YtofajgidjkjnpaaGreatDoorFrame
import Derived.Test.YtofajgidjkjnpaaGreatDoorFnsEspModesC
import Derived.Test.YtofajgidjkjnpaaGreatDoorPlEspModesB
import Derived.Test.YtofajgidjkjnpaaGreatDoorCards
import Derived.Test.YtofajgidjkjnpaaGreatDoorTie
import Derived.Test.YtofajgidjkjnpaaGreatDoorEmQGlobEm
import Derived.WalkKit
import Derived.ProofKit
import Derived.OpenShut
import Derived.ShutString
import Derived.ChangeOld
import Derived.Below
import Derived.Deep.DeepHandedRow
import Derived.LaidMore
namespace Go.Proofs.YtofajgidjkjnpaaGreatDoor.lawEspModes
open Go.ChangeShapes Go.WideShapes Go.ChangeAt Go.RowKit
open Go.ChangeMaps (open_string shut_string)
set_option linter.unusedVariables false

theorem own : ownKnob Tryz.prog.godebug = none := by kernel_rfl
theorem laidOut : laidOutB Tryz.prog = true := by kernel_rfl
theorem door_met (os : Os) (args : Array Value) : laidMetH Tryz.prog Rows.espModesRow.laid ((World.doorLaid Tryz.prog 400 os).forCall (fun _ _ => 0) ⟨#[], args, []⟩).memory :=
  laidMetH_of_parts3 (fuel := 8) (laidMet_of_run' 8 (by kernel_rfl) (by kernel_rfl)) (by kernel_rfl) (by kernel_rfl)
set_option maxRecDepth 100000 in
theorem lifted (os : Os) (started : os.Started) (H : Type) (enc : TypeId × Value → H) :
    ReturnsInHanded {} Tryz.checked os 3 .any (fun w args => (Rows.espModesSpec.pre enc Tryz.prog Tryz.f3 Rows.espModesRow.domain false w args ∧ laidMetH Tryz.prog Rows.espModesRow.laid w) ∧ sizedMet enc Tryz.prog Tryz.f3 (OpenSpec.ofChange Rows.espModesSpec) false w args)
      (Rows.espModesSpec.post enc Tryz.prog Tryz.f3 false true false false) := by
  refine returnsInHanded_of_change_and (C := Tryz.checked) (X := fun w _ => laidMetH Tryz.prog Rows.espModesRow.laid w) (fun _ _ _ hh h => h.of_heap hh) own started (by kernel_rfl) Tryz.func3
    (ChangeSpec.witness_shaped (enc := enc) (C := Tryz.checked) (os := os) (X := fun w _ => laidMetH Tryz.prog Rows.espModesRow.laid w) false (World.doorLaid Tryz.prog 400 os) #[.slice none 0 0, .slice none 0 0, .slice none 0 0, .int .i64 0, .int .u8 0] 8 rfl (World.shaped_of_RefB (by kernel_rfl) (by kernel_rfl)) (by kernel_rfl) (by kernel_rfl) (by kernel_rfl) (door_met os _)) ?_
  intro W base args ds gs before hval0 hW _ hsz hL _
  have hval : ∀ (j : Nat) t v, Tryz.f3.params[j]? = some t → args[j]? = some v → Value.okWide Tryz.prog W .any base t v := hval0
  have hW' := hW
  obtain ⟨p, q, hA0, hV, rfl, hfz, hnd⟩ := hW
  have hA : DataW.TrodAll enc Tryz.prog W 0 (fun _ => true) true Tryz.f3.params.toList args.toList ds p := hA0
  rw [Tryz.params3] at hA hval hsz
  obtain ⟨v0, vs0, d0, ds0, p0, q0, hargs, rfl, rfl, h0, r0⟩ := trodAll_cons hA
  obtain ⟨v1, vs1, d1, ds1, p1, q1, rfl, rfl, rfl, h1, r1⟩ := trodAll_cons r0
  obtain ⟨v2, vs2, d2, ds2, p2, q2, rfl, rfl, rfl, h2, r2⟩ := trodAll_cons r1
  obtain ⟨v3, vs3, d3, ds3, p3, q3, rfl, rfl, rfl, h3, r3⟩ := trodAll_cons r2
  obtain ⟨v4, vs4, d4, ds4, p4, q4, rfl, rfl, rfl, h4, r4⟩ := trodAll_cons r3
  obtain ⟨rfl, rfl, rfl⟩ := trodAll_nil r4
  obtain rfl : args = #[v0, v1, v2, v3, v4] := by cases args; simp_all
  obtain ⟨rfl, rfl⟩ := trodVars_none hV
  obtain ⟨a0, len0, cap0, rfl⟩ := okWide_slice Tryz.underlying22 (hval 0 22 v0 rfl rfl)
  have k0 := h0
  have lt0 : ∀ x ∈ p0, x.block < W.heap.size := by obtain ⟨m, hm⟩ := k0; exact DataW.trod_lt m _ _ _ hm
  obtain ⟨l0, rd0, nc0, mx0⟩ := rd_of_bytes h0
  obtain ⟨a1, len1, cap1, rfl⟩ := okWide_slice Tryz.underlying22 (hval 1 22 v1 rfl rfl)
  have k1 := h1
  have lt1 : ∀ x ∈ p1, x.block < W.heap.size := by obtain ⟨m, hm⟩ := k1; exact DataW.trod_lt m _ _ _ hm
  obtain ⟨l1, rd1, nc1, mx1⟩ := rd_of_bytes h1
  obtain ⟨a2, len2, cap2, rfl⟩ := okWide_slice Tryz.underlying22 (hval 2 22 v2 rfl rfl)
  have k2 := h2
  have lt2 : ∀ x ∈ p2, x.block < W.heap.size := by obtain ⟨m, hm⟩ := k2; exact DataW.trod_lt m _ _ _ hm
  obtain ⟨l2, rd2, nc2, mx2⟩ := rd_of_bytes h2
  obtain ⟨a3, rfl, rfl, rfl, w3⟩ := open_int Tryz.underlying3 (hval 3 3 v3 rfl rfl) h3
  obtain ⟨a4, rfl, rfl, rfl, w4⟩ := open_int Tryz.underlying5 (hval 4 5 v4 rfl rfl) h4
  clear hA0 hval0
  have walk : Calls Tryz.prog 3 #[.slice a0 len0 cap0, .slice a1 len1 cap1, .slice a2 len2 cap2, .int .i64 a3, .int .u8 a4] W fun e w' => e = .returned (.bool true) ∧ Ext W w' :=
    (law_walk (ks := [.val (.sl .u8), .val (.sl .u8), .val (.sl .u8), .val .i64, .val .u8]) (globs := G_globs) (F := fun y => law24_EspModes 18446744073709551616 y.1.1 y.1.2.1 y.1.2.2.1 y.1.2.2.2.1 y.1.2.2.2.2.1) (law24_EspModes_ok 18446744073709551616) (w := W) (args := [.slice a0 len0 cap0, .slice a1 len1 cap1, .slice a2 len2 cap2, .int .i64 a3, .int .u8 a4]) (x := (l0, l1, l2, a3, (UInt8.ofNat a4.toNat), ())) rfl ⟨vr (sr_bytes rd0 nc0 mx0), vr (sr_bytes rd1 nc1 mx1), vr (sr_bytes rd2 nc2 mx2), vr (sr_arg_i64 (bounds_i64 w3).1 (bounds_i64 w3).2), vr (sr_arg_u8 (bounds_u8 w4).1 (bounds_u8 w4).2), trivial⟩ (by simp [stKs, GV.ids, SV.ids]) (Pl.globs_ok hL) (Pl.modes l0 (len_of rd0 nc0 mx0) l1 (len_of rd1 nc1 mx1) l2 (len_of rd2 nc2 mx2) a3 (bounds_i64 w3).1 (bounds_i64 w3).2 (UInt8.ofNat a4.toNat))).mono fun e w' ⟨h1, h2⟩ => ⟨h1, ext_of h2⟩
  refine walk.mono fun e W' ⟨he, bel⟩ => ?_
  subst he
  have bel : Below W.heap.size W W' := bel
  exact ⟨_, rfl, _, _, _, [], _, [], hW', trodAll_mk1 (shut_bool Tryz.underlying4 _), (trodAll_cons_mk (Below.trod laidOut (by kernel_rfl) (of_decide_eq_true (by kernel_rfl)) k0 bel lt0) (trodAll_cons_mk (Below.trod laidOut (by kernel_rfl) (of_decide_eq_true (by kernel_rfl)) k1 bel lt1) (trodAll_cons_mk (Below.trod laidOut (by kernel_rfl) (of_decide_eq_true (by kernel_rfl)) k2 bel lt2) (trodAll_cons_mk (shut_int Tryz.underlying3 w3) (trodAll_cons_mk (shut_int Tryz.underlying5 w4) trodAll_mk0))))), rfl, bel.frame _, fun h => by cases h⟩

theorem both {a b : Bool} (h : a = true) (h' : b = true) : (a && b) = true := by rw [h, h']; rfl
theorem fact0 : (Rows.espModesRow.wf (OpenSpec.ofChange Rows.espModesSpec)) = true := by kernel_rfl
theorem fact1 : (laidOutB Tryz.pinned.checked.prog) = true := by kernel_rfl
theorem fact2 : (mapsRowed Tryz.pinned.checked.prog) = true := by kernel_rfl
theorem fact3 : (Tryz.f3.params.all (Tryz.pinned.checked.prog.readableRec ·)) = true := by kernel_rfl
theorem fact4 : (namedTie Tryz.pinned.checked.prog Rows.espModesRow.named Rows.espModesSpec.vars) = true := by kernel_rfl
theorem fact5 : (Rows.espModesRow.stops == []) = true := by kernel_rfl
theorem fact6 : (Tryz.pinned.checked.prog.stops == []) = true := by kernel_rfl
theorem fact7 : (Rows.espModesRow.knobs == []) = true := by kernel_rfl
theorem fact8 : (Tryz.pinned.checked.prog.stopKnobs == []) = true := by kernel_rfl
theorem fact9 : (Rows.espModesRow.inPlace == Tryz.pinned.checked.prog.inPlace 3) = true := by kernel_rfl
theorem fact10 : (Rows.espModesRow.unfollowed == Tryz.pinned.checked.prog.unfollowed 3) = true := by kernel_rfl
theorem fact11 : (Rows.espModesRow.recurses == Tryz.pinned.checked.prog.recurses 3) = true := by kernel_rfl
theorem fact12 : (Rows.espModesRow.named == Tryz.pinned.checked.prog.varsNamed 3) = true := by kernel_rfl
theorem fact13 : (Rows.espModesRow.maps == (Tryz.f3.params.toList ++ Rows.espModesSpec.plain.varTypes Tryz.pinned.checked.prog).any (Tryz.pinned.checked.prog.mapsRec ·)) = true := by kernel_rfl
theorem fact14 : (Rows.espModesRow.ifaces == (Tryz.f3.params.toList ++ Rows.espModesSpec.plain.varTypes Tryz.pinned.checked.prog).any (Tryz.pinned.checked.prog.ifacesRec ·)) = true := by kernel_rfl
theorem fact15 : (Rows.espModesRow.mapsOut == Tryz.pinned.checked.prog.mapsAmong Tryz.f3.resultTypes.toList) = true := by kernel_rfl
theorem fact16 : (Rows.espModesRow.loops == (Tryz.f3.params.toList ++ Rows.espModesSpec.plain.varTypes Tryz.pinned.checked.prog).any (Tryz.pinned.checked.prog.loopsFrom ·)) = true := by kernel_rfl
theorem fact17 : (Rows.espModesRow.wideKeys == (Tryz.f3.params.toList ++ Rows.espModesSpec.plain.varTypes Tryz.pinned.checked.prog ++ Tryz.f3.resultTypes.toList).any (Tryz.pinned.checked.prog.wideKeysFrom ·)) = true := by kernel_rfl
theorem fact18 : (Rows.espModesSpec.vars.all (Tryz.pinned.checked.prog.varReadable ·)) = true := by kernel_rfl
theorem fact19 : (Tryz.f3.resultTypes.all (fun t => Tryz.pinned.checked.prog.readableRec t && decide (t < Tryz.pinned.checked.prog.types.size))) = true := by kernel_rfl
theorem fact20 : (Rows.espModesRow.ifacesOut == Tryz.f3.resultTypes.toList.any (Tryz.pinned.checked.prog.ifacesRec ·)) = true := by kernel_rfl
theorem fact21 : (Rows.espModesRow.loopsOut == Tryz.f3.resultTypes.toList.any (Tryz.pinned.checked.prog.loopsFrom ·)) = true := by kernel_rfl
theorem fact22 : (Rows.espModesRow.plainKeys == Tryz.pinned.checked.prog.plainKeys) = true := by kernel_rfl
theorem fact23 : (Rows.espModesRow.shortTexts.isNone) = true := by kernel_rfl
theorem fact24 : (Tryz.pinned.checked.prog.stopsHeard) = true := by kernel_rfl
theorem fact25 : (Tryz.pinned.checked.prog.mayEnter) = true := by kernel_rfl
theorem fact26 : (Rows.espModesRow.lifted == Tryz.pinned.checked.prog.liftsFinal) = true := by kernel_rfl
theorem fact27 : (Tryz.pinned.checked.prog.make == some Rows.espModesRow.make) = true := by kernel_rfl
theorem fact28 : (Rows.espModesRow.kinds == (if Rows.espModesRow.domain.isEmpty then [] else Tryz.f3.params.toList.map fun t => match Tryz.pinned.checked.prog.underlying t with | some (.int k) => some k | _ => none)) = true := by kernel_rfl
theorem fact29 : (Rows.espModesRow.pinned == Rows.espModesRow.pinnedBy) = true := by kernel_rfl
theorem fact30 : (Rows.espModesRow.veiled == (Tryz.f3.params.toList ++ Rows.espModesSpec.plain.varTypes Tryz.pinned.checked.prog ++ Tryz.f3.resultTypes.toList).any (Tryz.pinned.checked.prog.veiledRec ·)) = true := by kernel_rfl
theorem fact31 : (Rows.espModesRow.veiledFits Tryz.pinned.checked.prog Tryz.f3.params.toList (Tryz.f3.params.toList ++ Rows.espModesSpec.plain.varTypes Tryz.pinned.checked.prog ++ Tryz.f3.resultTypes.toList)) = true := by kernel_rfl
set_option maxRecDepth 100000 in
theorem joined : joinedFacts Tryz.pinned.checked.prog 3 Tryz.f3 Rows.espModesSpec Rows.espModesRow = true := by
  unfold joinedFacts
  exact (both (both (both (both (both (both (both (both (both (both (both (both (both (both (both (both (both (both (both (both (both (both (both (both (both (both (both (both (both (both (both fact0 fact1) fact2) fact3) fact4) fact5) fact6) fact7) fact8) fact9) fact10) fact11) fact12) fact13) fact14) fact15) fact16) fact17) fact18) fact19) fact20) fact21) fact22) fact23) fact24) fact25) fact26) fact27) fact28) fact29) fact30) fact31)

theorem over : Rows.espModesRow.holds Tryz.pinned (OpenSpec.ofChange Rows.espModesSpec) :=
  OpenClaim.holds_of_wide 3 Tryz.f3 rfl rfl rfl rfl rfl rfl rfl ⟨rfl, rfl, rfl, rfl, rfl⟩ rfl rfl rfl rfl rfl (by kernel_rfl) Tryz.func3 joined
    (of_decide_eq_true (by kernel_rfl)) (by unfold Func.isWrapper; first | (rw [if_pos (by decide +kernel)]; kernel_rfl) | (rw [if_neg (by decide +kernel)]; exact ⟨rfl, rfl⟩))
    (fun os started H enc _ => lifted os started H enc)

theorem plain (f : FuncId) (fn : Func) (hf : Tryz.pinned.checked.prog.funcNamed "ipsecgate/ipsecgatelaw24.EspModes" = some f) (hfn : Tryz.pinned.checked.prog.funcs[f]? = some fn) :
    false = Tryz.pinned.checked.prog.looks [] ∧ ∀ (j : Nat) t, fn.params[j]? = some t → Tryz.pinned.checked.prog.wantsStandIn t = false := by
  obtain rfl : f = 3 := Option.some.inj ((show Tryz.prog.funcNamed "ipsecgate/ipsecgatelaw24.EspModes" = some 3 by kernel_rfl).symm.trans hf) |>.symm
  obtain rfl : fn = Tryz.f3 := (Option.some.inj (Tryz.func3.symm.trans hfn)).symm
  refine ⟨by kernel_rfl, fun j t ht => ?_⟩
  rw [Tryz.params3] at ht
  have hm : t ∈ [22, 22, 22, 3, 5] := by simpa using Array.mem_of_getElem? ht
  have hall : ([22, 22, 22, 3, 5].all fun u => !Tryz.prog.wantsStandIn u) = true := by kernel_rfl
  exact (show Tryz.prog.wantsStandIn t = false by simpa using List.all_eq_true.1 hall t hm)
theorem proved : Rows.EspModesCardSaid :=
  Claim7.holds_tied_plain_at .later [] _ _ _ _ over (fun _ h => by cases h) (by kernel_rfl) (fun _ h => by cases h) espModes_row_tie rfl ⟨rfl, rfl⟩ (by kernel_rfl) rfl plain (by kernel_rfl)
end Go.Proofs.YtofajgidjkjnpaaGreatDoor.lawEspModes
