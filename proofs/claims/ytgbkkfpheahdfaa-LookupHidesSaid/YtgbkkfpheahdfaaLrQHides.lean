/- Plain: the law LookupHides. -/
import Derived.Test.YtgbkkfpheahdfaaLrQTurns
import Derived.Test.YtgbkkfpheahdfaaFnsLookupHidesB
set_option linter.unusedVariables false
set_option linter.unusedSimpArgs false
namespace Go.Proofs.Ytgbkkfpheahdfaa.Pl
open Go
def lp0 (b : Bx) : Int := b.2.2.2.2.2.2.1.getD 0 0
def rp0 (b : Bx) : Int := b.2.2.2.2.2.2.2.1.getD 0 0
def adrB (b : Bx) (t : Pk) : Bool := inS (b.1, b.2.1, ()) (vk t.1) && (inS (b.2.2.1, b.2.2.2.1, ()) (vk t.2.1) && inS (nv b.2.2.2.2.1, nv b.2.2.2.2.2.1, ()) (t.2.2.1 + 1))
theorem hasB_iff {b : Bx} (hb : BOk b) (q : Pk) (o : Bool) : hasB b q o = true ↔ adrB b (turn q o) = true ∧ (lp0 b ≤ (turn q o).2.2.2.1 ∧ (turn q o).2.2.2.1 ≤ lp1 b) ∧ rp0 b ≤ (turn q o).2.2.2.2.1 ∧ (turn q o).2.2.2.2.1 ≤ rp1 b := by
  obtain ⟨x, y, e1, x1, x2, x3⟩ := hb.lport
  obtain ⟨u, v, e2, u1, u2, u3⟩ := hb.rport
  unfold hasB
  generalize turn q o = t
  have hh : hasP (ofB b) (pt t) = (inS (b.1, b.2.1, ()) (vk t.1) && (inS (b.2.2.1, b.2.2.2.1, ()) (vk t.2.1) && (inS (nv b.2.2.2.2.1, nv b.2.2.2.2.2.1, ()) (t.2.2.1 + 1) && (inS (nv x, nv y, ()) (t.2.2.2.1 + 1) && inS (nv u, nv v, ()) (t.2.2.2.2.1 + 1))))) := by
    unfold hasP ofB
    rw [e1, e2]
    rfl
  rw [hh, num_in (lo := x) (hi := y) (by omega) (by omega) (by omega) (by omega), num_in (lo := u) (hi := v) (by omega) (by omega) (by omega) (by omega)]
  unfold adrB lp0 lp1 rp0 rp1
  rw [e1, e2]
  simp only [List.getD_cons_zero, List.getD_cons_succ, Bool.and_eq_true, decide_eq_true_eq]
  constructor
  · rintro ⟨h1, h2, h3, h4, h5⟩; exact ⟨⟨h1, h2, h3⟩, h4, h5⟩
  · rintro ⟨⟨h1, h2, h3⟩, h4, h5⟩; exact ⟨h1, h2, h3, h4, h5⟩
theorem bok_l01 {b : Bx} (hb : BOk b) : lp0 b ≤ lp1 b ∧ rp0 b ≤ rp1 b := by
  obtain ⟨x, y, e1, x1, x2, x3⟩ := hb.lport
  obtain ⟨u, v, e2, u1, u2, u3⟩ := hb.rport
  unfold lp0 lp1 rp0 rp1
  rw [e1, e2]
  exact ⟨x2, u2⟩
/-- A box that has the packet for some ports could have it. -/
theorem cd_of_has {b : Bx} (hb : BOk b) {p q : Pk} (o : Bool) (h1 : q.1 = p.1) (h2 : q.2.1 = p.2.1) (h3 : q.2.2.1 = p.2.2.1) (hs : if (hidV p).1 = true then 0 ≤ q.2.2.2.1 else q.2.2.2.1 = p.2.2.2.1) (ht : if (hidV p).2 = true then 0 ≤ q.2.2.2.2.1 else q.2.2.2.2.1 = p.2.2.2.2.1)
    (h : hasB b q o = true) : cdV b p o = true := by
  have hl := bok_l01 hb
  obtain ⟨a1, a2, a3⟩ := (hasB_iff hb q o).1 h
  have hi := hasB_iff hb (cdP b p o) o
  have ha : adrB b (turn (cdP b p o) o) = adrB b (turn q o) := by
    cases o
    · show adrB b (p.2.1, p.1, p.2.2.1, _, _, ()) = adrB b (q.2.1, q.1, q.2.2.1, _, _, ())
      unfold adrB
      rw [h1, h2, h3]
    · show adrB b (p.1, p.2.1, p.2.2.1, _, _, ()) = adrB b q
      unfold adrB
      rw [h1, h2, h3]
  rw [ha] at hi
  unfold cdV
  cases o
  · have e : turn q false = (q.2.1, q.1, q.2.2.1, q.2.2.2.2.1, q.2.2.2.1, ()) := rfl
    rw [e] at a2 a3
    simp only at a2 a3
    have e2 : turn (cdP b p false) false = (p.2.1, p.1, p.2.2.1, (bif (hidV p).2 then lp1 b else p.2.2.2.2.1), (bif (hidV p).1 then rp1 b else p.2.2.2.1), ()) := rfl
    rw [e2] at hi
    simp only at hi
    have e3 : (cdP b p false).2.2.2.1 = (bif (hidV p).1 then rp1 b else p.2.2.2.1) := rfl
    have e4 : (cdP b p false).2.2.2.2.1 = (bif (hidV p).2 then lp1 b else p.2.2.2.2.1) := rfl
    rw [e3, e4]
    cases h4 : (hidV p).1 <;> cases h5 : (hidV p).2 <;> rw [h4] at hs hi <;> rw [h5] at ht hi <;> simp only [cond_true, cond_false, if_true, Bool.false_eq_true, if_false] at hs ht hi ⊢ <;> rw [hi.2 ⟨a1, ⟨by omega, by omega⟩, by omega, by omega⟩] <;> simp <;> omega
  · have e : turn q true = q := rfl
    rw [e] at a2 a3
    have e2 : turn (cdP b p true) true = (p.1, p.2.1, p.2.2.1, (bif (hidV p).1 then lp1 b else p.2.2.2.1), (bif (hidV p).2 then rp1 b else p.2.2.2.2.1), ()) := rfl
    rw [e2] at hi
    simp only at hi
    have e3 : (cdP b p true).2.2.2.1 = (bif (hidV p).1 then lp1 b else p.2.2.2.1) := rfl
    have e4 : (cdP b p true).2.2.2.2.1 = (bif (hidV p).2 then rp1 b else p.2.2.2.2.1) := rfl
    rw [e3, e4]
    cases h4 : (hidV p).1 <;> cases h5 : (hidV p).2 <;> rw [h4] at hs hi <;> rw [h5] at ht hi <;> simp only [cond_true, cond_false, if_true, Bool.false_eq_true, if_false] at hs ht hi ⊢ <;> rw [hi.2 ⟨a1, ⟨by omega, by omega⟩, by omega, by omega⟩] <;> simp <;> omega
/-- An action that lets pass although ports are hidden. -/
theorem act_bypass {l : List Rl} {p : Pk} {o : Bool} (hh : hid p = true) (h : (actV l p o).1 = 1) : ∃ ρ : Nat, (actV l p o).2 = (ρ : Int) ∧ ρ < l.length ∧ ∀ i, i < ρ → cdR (l.getD i rz) p o = false := by
  unfold actV at h ⊢
  cases hf : ruleF l p o with
  | none =>
    rw [hf] at h
    simp only at h
    unfold actE at h
    rw [if_pos hh] at h
    cases hg : actF l p o l.length with
    | none => rw [hg] at h; simp at h
    | some i => rw [hg] at h; simp at h
  | some ρ =>
    have hρ := (firstAt_some.1 hf).2.1
    rw [hf] at h
    simp only at h ⊢
    by_cases ha : (l.getD ρ rz).1 = 1
    · rw [if_pos ha] at h ⊢
      unfold actE at h ⊢
      rw [if_pos hh] at h ⊢
      cases hg : actF l p o ρ with
      | none =>
        refine ⟨ρ, rfl, by omega, fun i hi => ?_⟩
        exact firstAt_none.1 hg i (by omega) (by omega)
      | some i => rw [hg] at h; simp at h
    · rw [if_neg ha] at h
      exact absurd h ha
def PtsOk (l : List Int) : Prop := ∀ x ∈ l, 0 ≤ x ∧ x ≤ 65535
theorem pick_port {ports : List Int} (hp : PtsOk ports) (hne : 0 < ports.length) {v : Int} (v0 : 0 ≤ v) : (!(decide ((ports.length : Int) = 0))) = true ∧ inR (v.tmod (ports.length : Int)) ports.length = true ∧ 0 ≤ ports.getD (v.tmod (ports.length : Int)).toNat 0 ∧ ports.getD (v.tmod (ports.length : Int)).toNat 0 ≤ 65535 := by
  have h0 : 0 ≤ v.tmod (ports.length : Int) := Int.tmod_nonneg _ v0
  have h1 : v.tmod (ports.length : Int) < (ports.length : Int) := Int.tmod_lt_of_pos _ (by omega)
  refine ⟨by rw [dneg (by omega)]; rfl, inR_of h0 h1, ?_⟩
  exact hp _ (getD_mem (by omega) 0)
section
variable (N : Nat) (hN : 4611686018427387904 ≤ N)
include hN
theorem rule_cont {A : Type} {l : List Rl} (hl : l.length ≤ 1000000) (hB : ∀ r ∈ l, r.2.2.1.length ≤ 1000000 ∧ ∀ b ∈ r.2.2.1, BOk b) {p q : Pk} (hq : POk q) (o : Bool) {ρ : Nat} (H : ∀ i, i < ρ → cdR (l.getD i rz) p o = false)
    (h1 : q.1 = p.1) (h2 : q.2.1 = p.2.1) (h3 : q.2.2.1 = p.2.2.1) (hs : if (hidV p).1 = true then 0 ≤ q.2.2.2.1 else q.2.2.2.1 = p.2.2.2.1) (ht : if (hidV p).2 = true then 0 ≤ q.2.2.2.2.1 else q.2.2.2.2.1 = p.2.2.2.2.1) (G B : Option A) :
    (Option.bind (lookup_Rule N l q o) fun y => bif y.1.2.1 then (bif decide (y.1.1 < (ρ : Int)) then (bif inR y.1.1 l.length then (bif !(decide ((l.getD y.1.1.toNat rz).1 = 1)) then B else G) else none) else G) else G) = G := by
  rw [rule_p N hN l hl (fun r hr => (hB r hr).1) hq o, Option.bind_some]
  unfold ruleV
  cases hf : ruleF l q o with
  | none => rfl
  | some s =>
    obtain ⟨k1, k2, k3, _⟩ := firstAt_some.1 hf
    simp only [cond_true]
    by_cases hlt : s < ρ
    · have hsl : s < l.length := by omega
      rw [dpos (show (s : Int) < (ρ : Int) by omega), inRN hsl]
      simp only [cond_true, Int.toNat_natCast]
      have hc := H s hlt
      unfold cdR at hc
      by_cases ha : (l.getD s rz).1 = 1
      · rw [dpos ha]; rfl
      · exfalso
        rw [dneg ha] at hc
        simp only [Bool.not_false, Bool.true_and] at hc
        unfold hasR at k3
        obtain ⟨b, hb, hbb⟩ := List.any_eq_true.1 k3
        have hbo := (hB _ (getD_mem hsl rz)).2 b hb
        have := cd_of_has hbo o h1 h2 h3 hs ht hbb
        have h' := List.any_eq_false.1 hc b hb
        exact h' this
    · rw [dneg (show ¬ (s : Int) < (ρ : Int) by omega)]; rfl
end
end Go.Proofs.Ytgbkkfpheahdfaa.Pl
