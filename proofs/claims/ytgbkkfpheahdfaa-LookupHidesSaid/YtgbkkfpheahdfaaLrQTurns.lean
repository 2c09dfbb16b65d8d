/- Plain: the law LookupTurns. -/
import Derived.Test.YtgbkkfpheahdfaaLrQLook
import Derived.Test.YtgbkkfpheahdfaaFnsLookupHidesC
set_option linter.unusedVariables false
set_option linter.unusedSimpArgs false
namespace Go.Proofs.Ytgbkkfpheahdfaa.Pl
open Go
theorem awake22 : law22_awake 18446744073709551616 = some ((true, ()), ()) := by kernel_rfl
def swp (p : Pk) : Pk := (p.2.1, p.1, p.2.2.1, p.2.2.2.2.1, p.2.2.2.1, ())
theorem swp_pok {p : Pk} (h : POk p) : POk (swp p) := ⟨h.1, h.2.2, h.2.1⟩
theorem hasB_swp (b : Bx) (p : Pk) : hasB b (swp p) false = hasB b p true := rfl
theorem hasR_swp (r : Rl) (p : Pk) : hasR r (swp p) false = hasR r p true := rfl
theorem ruleF_swp (l : List Rl) (p : Pk) : ruleF l (swp p) false = ruleF l p true := rfl
theorem ruleV_swp (l : List Rl) (p : Pk) : ruleV l (swp p) false = ruleV l p true := rfl
theorem hidV_swp (p : Pk) (h1 : p.2.2.1 ≠ 1) (h2 : p.2.2.1 ≠ 58) : hidV (swp p) = ((hidV p).2, (hidV p).1) := by
  unfold hidV swp
  have h : ¬ (p.2.2.1 = 1 ∨ p.2.2.1 = 58) := by omega
  simp only [if_neg h]
  split <;> rfl
theorem cdV_swp (b : Bx) (p : Pk) (h1 : p.2.2.1 ≠ 1) (h2 : p.2.2.1 ≠ 58) : cdV b (swp p) false = cdV b p true := by
  have hh := hidV_swp p h1 h2
  have e : cdP b (swp p) false = swp (cdP b p true) := by
    unfold cdP
    rw [hh]
    cases (hidV p).1 <;> cases (hidV p).2 <;> rfl
  unfold cdV
  rw [e, hh, hasB_swp]
  show ((!(hidV p).2 || decide (0 ≤ (cdP b p true).2.2.2.2.1)) && ((!(hidV p).1 || decide (0 ≤ (cdP b p true).2.2.2.1)) && hasB b (cdP b p true) true)) = _
  generalize (!(hidV p).2 || decide (0 ≤ (cdP b p true).2.2.2.2.1)) = x
  generalize (!(hidV p).1 || decide (0 ≤ (cdP b p true).2.2.2.1)) = y
  cases x <;> cases y <;> rfl
theorem actV_swp (l : List Rl) (p : Pk) (h1 : p.2.2.1 ≠ 1) (h2 : p.2.2.1 ≠ 58) : actV l (swp p) false = actV l p true := by
  have hh := hidV_swp p h1 h2
  have hr : ∀ r : Rl, cdR r (swp p) false = cdR r p true := fun r => by
    unfold cdR
    congr 2
    funext b
    exact cdV_swp b p h1 h2
  have ha : ∀ m, actF l (swp p) false m = actF l p true m := fun m => firstAt_congr fun i _ _ => hr _
  have hd : hid (swp p) = hid p := by unfold hid; rw [hh]; exact Bool.or_comm _ _
  have he : ∀ m d, actE l (swp p) false m d = actE l p true m d := fun m d => by unfold actE; rw [hd, ha]
  unfold actV
  rw [ruleF_swp]
  cases ruleF l p true <;> simp only [he]
theorem turns (codes : List UInt8) (hc : codes.length ≤ 9223372036854775807) (packets : List UInt8) (hp : packets.length ≤ 9223372036854775807) :
    law22_LookupTurns 18446744073709551616 codes packets = some ((true, ()), ()) := by
  unfold law22_LookupTurns
  rw [awake22]
  generalize hN0 : 18446744073709551616 = N
  have hN : 4611686018427387904 ≤ N := by omega
  clear hN0
  simp only [Option.bind_some, Bool.not_true, cond_false]
  obtain ⟨c0, e0, k0⟩ := new_ok N codes (m := 240) (by omega) (by omega)
  obtain ⟨l, c1, e1, k1, hl⟩ := rules_ok N hN (m := 4) (by omega) k0
  obtain ⟨d0, e2, k2⟩ := new_ok N packets (m := 160) (by omega) (by omega)
  have e1' : make_Codes_Rules N (4 : Int) c0 = _ := e1
  rw [e0, Option.bind_some, e1', Option.bind_some, e2, Option.bind_some]
  have hlen : l.length ≤ 1000000 := by have := hl.1; omega
  have hB : ∀ r ∈ l, r.2.2.1.length ≤ 1000000 ∧ ∀ b ∈ r.2.2.1, BOk b := fun r hr => ⟨by have := (hl.2 r hr).len; omega, (hl.2 r hr).box⟩
  show law22_LookupTurns_1 N 0 l d0 = _
  unfold law22_LookupTurns_1
  have := loopK_of (N := N) (step := fun y => law22_LookupTurns_s2 N y.1.1 y.2.1 y.2.2.1) (J := fun (e : ((Unit) × (Unit))) => law22_LookupTurns_3 N)
    (I := fun y => ∃ (i : Nat) (d : Cd), y = (((i : Int), ()), (l, d, ())) ∧ COk d ∧ i ≤ 8) (μ := fun y => (8 - y.1.1).toNat) (T := fun r => r = ((true, ()), ())) ?_ (x := ((0, ()), (l, d0, ()))) ⟨0, d0, rfl, k2, by omega⟩ (by simp only; omega)
  · obtain ⟨r, h1, rfl⟩ := this
    exact h1
  · rintro _ ⟨i, d, rfl, hd, hi⟩
    show ∃ r, law22_LookupTurns_s2 N (i : Int) l d = some r ∧ _
    unfold law22_LookupTurns_s2
    by_cases hlt : i < 8
    · obtain ⟨p, d', e, hd', hpk⟩ := packet_ok N hd
      have hq := swp_pok hpk
      have hw : w64 ((i : Int) + 1) = ((i + 1 : Nat) : Int) := by rw [w64_of (by omega) (by omega)]; rfl
      have r1 := rule_p N hN l hlen (fun r hr => (hB r hr).1) hpk true
      have r2 := rule_p N hN l hlen (fun r hr => (hB r hr).1) hq false
      have a1 := action_p N hN l hlen hB hpk true
      have a2 := action_p N hN l hlen hB hq false
      rw [ruleV_swp] at r2
      rw [dpos (show (i : Int) < 8 by omega), cond_true, e, Option.bind_some]
      show ∃ r, (Option.bind (lookup_Rule N l p true) fun y8 => Option.bind (lookup_Rule N l (swp p) false) fun y9 => _) = some r ∧ _
      rw [r1, Option.bind_some, r2, Option.bind_some]
      simp only [decide_true, Bool.not_true, cond_false, hw]
      refine ⟨.go ((((i + 1 : Nat) : Int), ()), (l, d', ())), ?_, ⟨i + 1, d', rfl, hd', by omega⟩, by simp only; omega⟩
      by_cases h1 : p.2.2.1 = 1
      · rw [dpos h1]; rfl
      by_cases h2 : p.2.2.1 = 58
      · rw [dneg h1, dpos h2]; rfl
      rw [actV_swp l p h1 h2] at a2
      rw [dneg h1, dneg h2]
      simp only [Bool.not_false, cond_true]
      show (Option.bind (lookup_Action N l p true) fun y14 => Option.bind (lookup_Action N l (swp p) false) fun y15 => _) = _
      rw [a1, Option.bind_some, a2, Option.bind_some]
      simp only [decide_true, Bool.not_true, cond_false]
    · rw [dneg (show ¬ (i : Int) < 8 by omega), cond_false]
      exact ⟨_, rfl, _, rfl, rfl⟩
end Go.Proofs.Ytgbkkfpheahdfaa.Pl
