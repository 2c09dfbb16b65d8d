/- Plain: which rule has a packet, and what is done with it (lookup). -/
import Derived.Test.YtgbkkfpheahdfaaLrQRules
import Derived.Test.YtgbkkfpheahdfaaFnsLookupHidesA
set_option linter.unusedVariables false
set_option linter.unusedSimpArgs false
namespace Go.Proofs.Ytgbkkfpheahdfaa.Pl
open Go
abbrev bz : Bx := ((0, 0, 0, ()), (0, 0, 0, ()), (0, 0, 0, ()), (0, 0, 0, ()), 0, 0, List.replicate 2 0, List.replicate 2 0, ())
abbrev rz : Rl := (0, [], [], ())
theorem firstAt_isSome {q : Nat → Bool} {n : Nat} : (firstAt q 0 n).isSome = true ↔ ∃ i, i < n ∧ q i = true := by
  cases h : firstAt q 0 n with
  | none =>
    rw [firstAt_none] at h
    refine ⟨fun e => (by cases e), fun ⟨i, h1, h2⟩ => ?_⟩
    rw [h i (by omega) (by omega)] at h2; cases h2
  | some i =>
    obtain ⟨h1, h2, h3, _⟩ := firstAt_some.1 h
    exact ⟨fun _ => ⟨i, by omega, h3⟩, fun _ => rfl⟩
theorem firstAt_any {α : Type} (f : α → Bool) (B : List α) (d : α) : (firstAt (fun j => f (B.getD j d)) 0 B.length).isSome = B.any f := by
  rw [Bool.eq_iff_iff, firstAt_isSome, List.any_eq_true]
  constructor
  · rintro ⟨i, h1, h2⟩
    rw [List.getD, List.getElem?_eq_getElem h1] at h2
    exact ⟨B[i], List.getElem_mem h1, h2⟩
  · rintro ⟨x, hx, h⟩
    obtain ⟨i, h1, rfl⟩ := List.getElem_of_mem hx
    refine ⟨i, h1, ?_⟩
    rw [List.getD, List.getElem?_eq_getElem h1]
    exact h
def hasR (r : Rl) (p : Pk) (o : Bool) : Bool := r.2.2.1.any fun b => hasB b p o
def ruleF (l : List Rl) (p : Pk) (o : Bool) : Option Nat := firstAt (fun i => hasR (l.getD i rz) p o) 0 l.length
def ruleV (l : List Rl) (p : Pk) (o : Bool) : Int × Bool := match ruleF l p o with
  | some i => ((i : Int), true)
  | none => (0, false)
/-- Which ports are hidden. -/
def hidV (p : Pk) : Bool × Bool := if p.2.2.1 = 6 ∨ p.2.2.1 = 17 then (decide (p.2.2.2.1 = -1), decide (p.2.2.2.2.1 = -1)) else if p.2.2.1 = 1 ∨ p.2.2.1 = 58 then (decide (p.2.2.2.1 = -1), false) else (false, false)
def lp1 (b : Bx) : Int := b.2.2.2.2.2.2.1.getD 1 0
def rp1 (b : Bx) : Int := b.2.2.2.2.2.2.2.1.getD 1 0
def cdP (b : Bx) (p : Pk) (o : Bool) : Pk := (p.1, p.2.1, p.2.2.1, (bif (hidV p).1 then (bif o then lp1 b else rp1 b) else p.2.2.2.1), (bif (hidV p).2 then (bif o then rp1 b else lp1 b) else p.2.2.2.2.1), ())
def cdV (b : Bx) (p : Pk) (o : Bool) : Bool := (!(hidV p).1 || decide (0 ≤ (cdP b p o).2.2.2.1)) && ((!(hidV p).2 || decide (0 ≤ (cdP b p o).2.2.2.2.1)) && hasB b (cdP b p o) o)
def cdR (r : Rl) (p : Pk) (o : Bool) : Bool := !(decide (r.1 = 1)) && r.2.2.1.any fun b => cdV b p o
def actF (l : List Rl) (p : Pk) (o : Bool) (m : Nat) : Option Nat := firstAt (fun i => cdR (l.getD i rz) p o) 0 m
def hid (p : Pk) : Bool := (hidV p).1 || (hidV p).2
def actE (l : List Rl) (p : Pk) (o : Bool) (m : Nat) (d : Int × Int) : Int × Int := if hid p = true then (match actF l p o m with
  | some i => (0, (i : Int))
  | none => d) else d
def actV (l : List Rl) (p : Pk) (o : Bool) : Int × Int := match ruleF l p o with
  | some r => if (l.getD r rz).1 = 1 then actE l p o r (1, (r : Int)) else ((l.getD r rz).1, (r : Int))
  | none => actE l p o l.length (0, -1)
theorem bok_lp {b : Bx} (h : BOk b) : -1 ≤ lp1 b ∧ lp1 b ≤ 65535 := by
  obtain ⟨x, y, e, h1, h2, h3⟩ := h.lport
  unfold lp1; rw [e]
  simp only [List.getD_cons_zero, List.getD_cons_succ]; omega
theorem bok_rp {b : Bx} (h : BOk b) : -1 ≤ rp1 b ∧ rp1 b ≤ 65535 := by
  obtain ⟨x, y, e, h1, h2, h3⟩ := h.rport
  unfold rp1; rw [e]
  simp only [List.getD_cons_zero, List.getD_cons_succ]; omega
theorem cdP_pok {b : Bx} (hb : BOk b) {p : Pk} (hp : POk p) (o : Bool) : POk (cdP b p o) := by
  have h1 := bok_lp hb
  have h2 := bok_rp hb
  obtain ⟨a1, a2, a3⟩ := hp
  refine ⟨a1, ?_, ?_⟩
  · show -1 ≤ (bif (hidV p).1 then (bif o then lp1 b else rp1 b) else p.2.2.2.1) ∧ (bif (hidV p).1 then (bif o then lp1 b else rp1 b) else p.2.2.2.1) ≤ 65535
    cases (hidV p).1 <;> cases o <;> first | exact a2 | exact h1 | exact h2
  · show -1 ≤ (bif (hidV p).2 then (bif o then rp1 b else lp1 b) else p.2.2.2.2.1) ∧ (bif (hidV p).2 then (bif o then rp1 b else lp1 b) else p.2.2.2.2.1) ≤ 65535
    cases (hidV p).2 <;> cases o <;> first | exact a3 | exact h1 | exact h2
theorem hidden_p (N : Nat) (p : Pk) : lookup_hidden N p = some (((hidV p).1, (hidV p).2, ()), ()) := by
  unfold lookup_hidden hidV
  by_cases h1 : p.2.2.1 = 6
  · simp only [dpos h1, cond_true, if_pos (show p.2.2.1 = 6 ∨ p.2.2.1 = 17 from .inl h1)]
  by_cases h2 : p.2.2.1 = 17
  · simp only [dneg h1, dpos h2, cond_true, cond_false, if_pos (show p.2.2.1 = 6 ∨ p.2.2.1 = 17 from .inr h2)]
  have h12 : ¬ (p.2.2.1 = 6 ∨ p.2.2.1 = 17) := by omega
  by_cases h3 : p.2.2.1 = 1
  · simp only [dneg h1, dneg h2, dpos h3, cond_true, cond_false, if_neg h12, if_pos (show p.2.2.1 = 1 ∨ p.2.2.1 = 58 from .inl h3)]
  by_cases h4 : p.2.2.1 = 58
  · simp only [dneg h1, dneg h2, dneg h3, dpos h4, cond_true, cond_false, if_neg h12, if_pos (show p.2.2.1 = 1 ∨ p.2.2.1 = 58 from .inr h4)]
  · simp only [dneg h1, dneg h2, dneg h3, dneg h4, cond_false, if_neg h12, if_neg (show ¬ (p.2.2.1 = 1 ∨ p.2.2.1 = 58) by omega)]
theorem actF_take {l : List Rl} {m : Nat} (hm : m ≤ l.length) (p : Pk) (o : Bool) : actF (l.take m) p o (l.take m).length = actF l p o m := by
  have e : (l.take m).length = m := by rw [List.length_take]; omega
  rw [e]
  unfold actF
  refine firstAt_congr fun i _ h => ?_
  have : (l.take m).getD i rz = l.getD i rz := by
    rw [List.getD, List.getD, List.getElem?_take, if_pos (by omega)]
  rw [this]
section
variable (N : Nat) (hN : 4611686018427387904 ≤ N)
include hN
theorem rule_6 (l : List Rl) (hl : l.length ≤ 1000000) {i : Nat} (hi : i < l.length) (B : List Bx) (hB : B.length ≤ 1000000) {p : Pk} (hp : POk p) (o : Bool) :
    lookup_Rule_6 N o (i : Int) l (l.length : Int) (i : Int) B (B.length : Int) 0 p = some (if (B.any fun b => hasB b p o) = true then .rt (((i : Int), true, ()), ()) else .go ((o, l, (l.length : Int), ((i + 1 : Nat) : Int), ()), (p, ()))) := by
  unfold lookup_Rule_6
  refine (loopK_find (fun j : Nat => ((o, (i : Int), l, (l.length : Int), (i : Int), B, (B.length : Int), (j : Int), ()), (p, ()))) (fun j => hasB (B.getD j bz) p o) (fun _ => .rt (((i : Int), true, ()), ())) (n := B.length) (e := ((o, l, (l.length : Int), (i : Int), ()), (p, ()))) ?_ ?_ ?_ (by omega)).trans ?_
  · intro j hj hq
    show lookup_Rule_s7 N o (i : Int) l (l.length : Int) (i : Int) B (B.length : Int) (j : Int) p = _
    unfold lookup_Rule_s7
    rw [dpos (show (j : Int) < (B.length : Int) by omega), inRN hj, w64_of (by omega) (by omega)]
    simp only [cond_true, Int.toNat_natCast]
    rw [has_ok N hN _ hp, Option.bind_some]
    simp only [hq, cond_false]
    rfl
  · intro j hj hq
    show lookup_Rule_s7 N o (i : Int) l (l.length : Int) (i : Int) B (B.length : Int) (j : Int) p = _
    unfold lookup_Rule_s7
    rw [dpos (show (j : Int) < (B.length : Int) by omega), inRN hj]
    simp only [cond_true, Int.toNat_natCast]
    rw [has_ok N hN _ hp, Option.bind_some]
    simp only [hq, cond_true]
  · show lookup_Rule_s7 N o (i : Int) l (l.length : Int) (i : Int) B (B.length : Int) (B.length : Int) p = _
    unfold lookup_Rule_s7
    rw [dneg (by omega)]; rfl
  · have hany := firstAt_any (fun b => hasB b p o) B bz
    cases hf : firstAt (fun j => hasB (B.getD j bz) p o) 0 B.length with
    | none =>
      rw [hf] at hany
      rw [← hany]
      show lookup_Rule_8 N o l (l.length : Int) (i : Int) p = _
      unfold lookup_Rule_8
      rw [w64_of (by omega) (by omega)]; rfl
    | some j =>
      rw [hf] at hany
      rw [← hany]; rfl
theorem rule_p (l : List Rl) (hl : l.length ≤ 1000000) (hB : ∀ r ∈ l, r.2.2.1.length ≤ 1000000) {p : Pk} (hp : POk p) (o : Bool) : lookup_Rule N l p o = some (((ruleV l p o).1, (ruleV l p o).2, ()), ()) := by
  unfold lookup_Rule lookup_Rule_1
  have step : ∀ i, i < l.length → lookup_Rule_s2 N o l (l.length : Int) (i : Int) p = some (if hasR (l.getD i rz) p o = true then .rt (((i : Int), true, ()), ()) else .go ((o, l, (l.length : Int), ((i + 1 : Nat) : Int), ()), (p, ()))) := by
    intro i hi
    unfold lookup_Rule_s2
    rw [dpos (show (i : Int) < (l.length : Int) by omega), cond_true]
    unfold lookup_Rule_3 lookup_Rule_5
    rw [inRN hi]
    simp only [cond_true, Int.toNat_natCast]
    exact rule_6 N hN l hl hi _ (hB _ (getD_mem hi _)) hp o
  refine (loopK_find (fun i : Nat => ((o, l, (l.length : Int), (i : Int), ()), (p, ()))) (fun i => hasR (l.getD i rz) p o) (fun i => (((i : Int), true, ()), ())) (n := l.length) (e := ((), ())) ?_ ?_ ?_ (by omega)).trans ?_
  · intro i hi hq
    refine (step i hi).trans ?_
    rw [hq]; rfl
  · intro i hi hq
    refine (step i hi).trans ?_
    rw [hq]; rfl
  · show lookup_Rule_s2 N o l (l.length : Int) (l.length : Int) p = _
    unfold lookup_Rule_s2
    rw [dneg (by omega)]; rfl
  · unfold ruleV ruleF
    cases firstAt (fun i => hasR (l.getD i rz) p o) 0 l.length <;> rfl
theorem could_p {b : Bx} (hb : BOk b) {p : Pk} (hp : POk p) (o : Bool) : lookup_could N b p o = some ((cdV b p o, ()), ()) := by
  have hh := has_ok N hN b (cdP_pok hb hp o) o
  unfold lookup_could cdV
  rw [hidden_p]
  unfold cdP lp1 rp1 at *
  obtain ⟨p1, p2, p3, p4, p5, u⟩ := p
  generalize hidV (p1, p2, p3, p4, p5, u) = s at *
  obtain ⟨s, t⟩ := s
  simp only [Option.bind_some] at *
  cases h1 : decide (0 ≤ b.2.2.2.2.2.2.1.getD 1 0) <;> cases h2 : decide (0 ≤ b.2.2.2.2.2.2.2.1.getD 1 0) <;> cases o <;> cases s <;> cases t <;> simp only [h1, h2, Bool.not_true, Bool.not_false, cond_true, cond_false, Bool.false_or, Bool.true_or, Bool.true_and, Bool.false_and] at hh ⊢ <;> first | rfl | (rw [hh]; rfl)
theorem act_11 (l : List Rl) (hl : l.length ≤ 1000000) {i : Nat} (hi : i < l.length) (x : Rl) (hB : x.2.2.1.length ≤ 1000000) (hb : ∀ b ∈ x.2.2.1, BOk b) {p : Pk} (hp : POk p) (o : Bool) (r : Int) (ok : Bool) :
    lookup_Action_11 N o r ok (i : Int) l (l.length : Int) (i : Int) x.2.2.1 (x.2.2.1.length : Int) 0 p x x.2.2.1 = some (if cdR x p o = true then .rt ((0, (i : Int), ()), ()) else .go ((o, r, ok, l, (l.length : Int), ((i + 1 : Nat) : Int), ()), (p, ()))) := by
  unfold lookup_Action_11
  refine (loopK_find (fun j : Nat => ((o, r, ok, (i : Int), l, (l.length : Int), (i : Int), x.2.2.1, (x.2.2.1.length : Int), (j : Int), ()), (p, x, x.2.2.1, ()))) (fun j => !(decide (x.1 = 1)) && cdV (x.2.2.1.getD j bz) p o) (fun _ => .rt ((0, (i : Int), ()), ())) (n := x.2.2.1.length) (e := ((o, r, ok, l, (l.length : Int), (i : Int), ()), (p, ()))) ?_ ?_ ?_ (by omega)).trans ?_
  · intro j hj hq
    show lookup_Action_s12 N o r ok (i : Int) l (l.length : Int) (i : Int) x.2.2.1 (x.2.2.1.length : Int) (j : Int) p x x.2.2.1 = _
    unfold lookup_Action_s12
    rw [dpos (show (j : Int) < (x.2.2.1.length : Int) by omega), inRN hj, w64_of (by omega) (by omega)]
    simp only [cond_true, Int.toNat_natCast]
    cases h1 : decide (x.1 = 1)
    · rw [h1] at hq
      simp only [Bool.not_false, Bool.true_and] at hq
      rw [could_p N hN (hb _ (getD_mem hj _)) hp]
      simp only [Bool.not_false, cond_true, Option.bind_some, hq, cond_false]
      rfl
    · rfl
  · intro j hj hq
    show lookup_Action_s12 N o r ok (i : Int) l (l.length : Int) (i : Int) x.2.2.1 (x.2.2.1.length : Int) (j : Int) p x x.2.2.1 = _
    unfold lookup_Action_s12
    rw [dpos (show (j : Int) < (x.2.2.1.length : Int) by omega), inRN hj]
    simp only [Bool.and_eq_true] at hq
    simp only [cond_true, Int.toNat_natCast, hq.1]
    rw [could_p N hN (hb _ (getD_mem hj _)) hp]
    simp only [Option.bind_some, hq.2, cond_true]
  · show lookup_Action_s12 N o r ok (i : Int) l (l.length : Int) (i : Int) x.2.2.1 (x.2.2.1.length : Int) (x.2.2.1.length : Int) p x x.2.2.1 = _
    unfold lookup_Action_s12
    rw [dneg (by omega)]; rfl
  · have hany := firstAt_any (fun b => !(decide (x.1 = 1)) && cdV b p o) x.2.2.1 bz
    have hr : (x.2.2.1.any fun b => !(decide (x.1 = 1)) && cdV b p o) = cdR x p o := by
      unfold cdR
      cases decide (x.1 = 1)
      · simp
      · simp
    rw [hr] at hany
    cases hf : firstAt (fun j => !(decide (x.1 = 1)) && cdV (x.2.2.1.getD j bz) p o) 0 x.2.2.1.length with
    | none =>
      rw [hf] at hany
      rw [← hany]
      show lookup_Action_13 N o r ok l (l.length : Int) (i : Int) p = _
      unfold lookup_Action_13
      rw [w64_of (by omega) (by omega)]; rfl
    | some j =>
      rw [hf] at hany
      rw [← hany]; rfl
theorem act_5 (l : List Rl) (hl : l.length ≤ 1000000) (hB : ∀ r ∈ l, r.2.2.1.length ≤ 1000000 ∧ ∀ b ∈ r.2.2.1, BOk b) {p : Pk} (hp : POk p) (o : Bool) (r : Int) (ok : Bool) :
    lookup_Action_5 N o r ok l p = match actF l p o l.length with
      | some i => some ((0, (i : Int), ()), ())
      | none => lookup_Action_14 N r ok := by
  unfold lookup_Action_5 lookup_Action_6
  have step : ∀ i, i < l.length → lookup_Action_s7 N o r ok l (l.length : Int) (i : Int) p = some (if cdR (l.getD i rz) p o = true then .rt ((0, (i : Int), ()), ()) else .go ((o, r, ok, l, (l.length : Int), ((i + 1 : Nat) : Int), ()), (p, ()))) := by
    intro i hi
    unfold lookup_Action_s7
    rw [dpos (show (i : Int) < (l.length : Int) by omega), cond_true]
    unfold lookup_Action_8 lookup_Action_10
    rw [inRN hi]
    simp only [cond_true, Int.toNat_natCast]
    have h := hB _ (getD_mem hi rz)
    exact act_11 N hN l hl hi _ h.1 h.2 hp o r ok
  refine (loopK_find (fun i : Nat => ((o, r, ok, l, (l.length : Int), (i : Int), ()), (p, ()))) (fun i => cdR (l.getD i rz) p o) (fun i => ((0, (i : Int), ()), ())) (n := l.length) (e := ((r, ok, ()), ())) ?_ ?_ ?_ (by omega)).trans ?_
  · intro i hi hq
    refine (step i hi).trans ?_
    rw [hq]; rfl
  · intro i hi hq
    refine (step i hi).trans ?_
    rw [hq]; rfl
  · show lookup_Action_s7 N o r ok l (l.length : Int) (l.length : Int) p = _
    unfold lookup_Action_s7
    rw [dneg (by omega)]; rfl
  · unfold actF
    cases firstAt (fun i => cdR (l.getD i rz) p o) 0 l.length <;> rfl
theorem act_2 (l : List Rl) (hl : l.length ≤ 1000000) (hB : ∀ r ∈ l, r.2.2.1.length ≤ 1000000 ∧ ∀ b ∈ r.2.2.1, BOk b) {p : Pk} (hp : POk p) (o : Bool) (r : Int) (ok : Bool) :
    lookup_Action_2 N o r ok l p = some (((actE l p o l.length (bif !ok then (0, -1) else (1, r))).1, (actE l p o l.length (bif !ok then (0, -1) else (1, r))).2, ()), ()) := by
  have h14 : lookup_Action_14 N r ok = some (((bif !ok then ((0, -1) : Int × Int) else (1, r)).1, (bif !ok then ((0, -1) : Int × Int) else (1, r)).2, ()), ()) := by cases ok <;> rfl
  have h5 : lookup_Action_3 N o r ok l true p = some (((match actF l p o l.length with | some i => ((0, (i : Int)) : Int × Int) | none => (bif !ok then ((0, -1) : Int × Int) else (1, r))).1, (match actF l p o l.length with | some i => ((0, (i : Int)) : Int × Int) | none => (bif !ok then ((0, -1) : Int × Int) else (1, r))).2, ()), ()) := by
    unfold lookup_Action_3
    rw [cond_true, act_5 N hN l hl hB hp]
    cases actF l p o l.length
    · exact h14
    · rfl
  unfold lookup_Action_2 actE hid
  rw [hidden_p, Option.bind_some]
  simp only []
  cases (hidV p).1
  · cases (hidV p).2
    · unfold lookup_Action_3
      rw [cond_false, cond_false]
      exact h14
    · rw [cond_false]; exact h5
  · rw [cond_true]; exact h5
theorem action_p (l : List Rl) (hl : l.length ≤ 1000000) (hB : ∀ r ∈ l, r.2.2.1.length ≤ 1000000 ∧ ∀ b ∈ r.2.2.1, BOk b) {p : Pk} (hp : POk p) (o : Bool) :
    lookup_Action N l p o = some (((actV l p o).1, (actV l p o).2, ()), ()) := by
  unfold lookup_Action actV
  rw [rule_p N hN l hl (fun r hr => (hB r hr).1) hp o, Option.bind_some]
  unfold ruleV
  cases hf : ruleF l p o with
  | none =>
    simp only [cond_false]
    unfold lookup_Action_1
    rw [cond_false, cond_false, act_2 N hN l hl hB hp]
    rfl
  | some r =>
    obtain ⟨h1, h2, _⟩ := firstAt_some.1 hf
    have hr : r < l.length := by omega
    simp only [cond_true, inRN hr, Int.toNat_natCast]
    unfold lookup_Action_1
    by_cases ha : (l.getD r rz).1 = 1
    · rw [dpos ha, if_pos ha]
      simp only [Bool.not_true, cond_false, cond_true]
      have d1 : decide ((0 : Int) ≤ (r : Int)) = true := decide_eq_true (by omega)
      have d2 : decide ((r : Int) ≤ (l.length : Int)) = true := decide_eq_true (by omega)
      have d3 : decide ((0 : Int) ≤ 0) = true := rfl
      have hcut : cut l 0 (r : Int).toNat = l.take r := by unfold cut; simp
      have htl : (l.take r).length ≤ 1000000 := by rw [List.length_take]; omega
      simp only [d1, d2, d3, Bool.and_self, Bool.and_true, cond_true, hcut]
      rw [act_2 N hN (l.take r) htl (fun x hx => hB x (List.mem_of_mem_take hx)) hp]
      unfold actE
      rw [actF_take (show r ≤ l.length by omega)]
      rfl
    · rw [dneg ha, if_neg ha]
      simp only [Bool.not_false, cond_true, inRN hr, Int.toNat_natCast]
end
end Go.Proofs.Ytgbkkfpheahdfaa.Pl
