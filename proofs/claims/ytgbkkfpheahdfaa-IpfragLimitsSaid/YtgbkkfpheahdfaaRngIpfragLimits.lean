import Derived.Test.YtgbkkfpheahdfaaFnsIpfragLimitsA
import Derived.Test.YtgbkkfpheahdfaaHndIpfragLimitsB
import Derived.KernelRfl
set_option linter.unusedVariables false
set_option linter.unusedSimpArgs false
namespace Go.Proofs.Ytgbkkfpheahdfaa
open Go
set_option maxRecDepth 100000
set_option linter.unusedVariables false
/-! ipsecgate/ipfrag.Add: a text by hand, as of a range over a function -/
abbrev ipfrag_Add_R : Type := AddR
noncomputable def ipfrag_Add (N : Nat) (l : List D99) (p : D97) (now : Int) : Option ipfrag_Add_R := addF N l p now
noncomputable def ipfrag_Add_S0 : Spec := ⟨[.val (.sl T99), .val T97, .val .i64], []⟩
noncomputable def ipfrag_Add_S1 : Spec := ⟨[.val (.sl T99), .val (.sl .u8), .val .i64], []⟩
noncomputable def ipfrag_Add_ctr (N : Nat) : Ctr := ⟨ipfrag_Add_S0, ipfrag_Add_S1.un [false, false, false], 0, fun y => ipfrag_Add N y.1.1 y.1.2.1 y.1.2.2.1⟩
theorem ipfrag_Add_ok (N : Nat) : Ctr.ok Try.prog G_globs 66 (ipfrag_Add_ctr N) where
  body := ⟨Try.f66, Try.func66, by kernel_rfl, by kernel_rfl⟩
  call := by
    intro E ob Z args x y hglobs hpins hlen hrep hF
    obtain ⟨⟨l, p, now, u⟩, u'⟩ := x
    have hargs : args.length = 3 := hlen
    have hF' : addF N l p now = some y := hF
    match args, hargs with
    | [a0, a1, a2], _ =>
    obtain ⟨_, ⟨vs0, d0, e0⟩, _⟩ := hrep.slots 0 (.sv (.data (.sl T99) l)) rfl
    obtain ⟨_, ⟨vs1, d1, e1⟩, _⟩ := hrep.slots 1 (.sv (.data T97 p)) rfl
    obtain ⟨_, h2, _⟩ := hrep.slots 2 (.sv (.data .i64 now)) rfl
    obtain ⟨t0, rfl⟩ := List.length_eq_one_iff.1 d0.len
    have f0 : a0 = t0 := e0
    have f1 : a1 = .agg vs1.toArray := e1
    have f2 : a2 = .int .i64 now ∧ _ := SR.i64 (ob := ob) h2
    show Calls Try.prog 66 [a0, a1, a2].toArray E.w0 _
    rw [f0, f1, f2.1]
    refine (add_calls d0 d1 f2.2 hrep.zlt hF').mono ?_
    rintro e w' ⟨tv, dv, Z', rfl, he, hk, ht, hdv, hzz⟩
    refine ⟨[tv, dv, .int .i64 y.1.2.2.1], fun _ => undef, Z', rfl, rfl, ?_⟩
    exact {
      defers := rfl
      size := rfl
      kept := hrep.kept.trans hk fun b hb => hb.elim
      zlt := fun b hb => (hzz b hb).1
      z0 := fun b hb hl => hrep.z0 b ((hzz b hb).2 hl) hl
      slots := by
        intro m g hl
        obtain ⟨i, q1, q2⟩ := look_zip hl
        match i with
        | 0 => cases q1; cases q2; exact ⟨by show 0 < 3; omega, ⟨[tv], ht, rfl⟩, trivial⟩
        | 1 => cases q1; cases q2; exact ⟨by show 1 < 3; omega, ⟨[dv], hdv, rfl⟩, trivial⟩
        | 2 => cases q1; cases q2; exact ⟨by show 2 < 3; omega, ⟨_, ⟨rfl, he⟩, rfl⟩, trivial⟩
        | k + 3 => simp [ipfrag_Add_ctr, ipfrag_Add_S1, Spec.un, unfp, List.range, List.range.loop] at q1
      objs := fun i o hl => by simp [Spec.st, ipfrag_Add_ctr, ipfrag_Add_S1, Spec.un, stOs, number, look] at hl
      own := fun i o hl => by simp [Spec.st, ipfrag_Add_ctr, ipfrag_Add_S1, Spec.un, stOs, number, look] at hl
      apart := fun i j o o' hij hl => by simp [Spec.st, ipfrag_Add_ctr, ipfrag_Add_S1, Spec.un, stOs, number, look] at hl
      globs := fun g d hl => by rw [hglobs] at hl; simp [G_globs, look] at hl
      pins := fun p hp => by rw [hpins] at hp; simp [ipfrag_Add_ctr] at hp }

end Go.Proofs.Ytgbkkfpheahdfaa