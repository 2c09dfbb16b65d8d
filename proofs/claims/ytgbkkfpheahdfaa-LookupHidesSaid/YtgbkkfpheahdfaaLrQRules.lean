/- Plain: rules are made. -/
import Derived.Test.YtgbkkfpheahdfaaLrQCorners
import Derived.Test.YtgbkkfpheahdfaaFnsLookupHidesA
set_option linter.unusedVariables false
set_option linter.unusedSimpArgs false
namespace Go.Proofs.Ytgbkkfpheahdfaa.Pl
open Go
structure RlOk (r : Rl) : Prop where
  len : r.2.2.1.length ≤ 2
  box : ∀ b ∈ r.2.2.1, BOk b
  nm : r.2.1.length ≤ 6
def LRok (m : Nat) (l : List Rl) : Prop := l.length ≤ m ∧ ∀ r ∈ l, RlOk r
abbrev Cd := List UInt8 × (Int × Unit)
section
variable (N : Nat) (hN : 4611686018427387904 ≤ N)
include hN
theorem rules_7 {c : Cd} (hc : COk c) (n k : Int) (k0 : 0 ≤ k) (k2 : k ≤ 2) {out : List Rl} (ho : out.length ≤ 1000) (r : Rl) : ∃ c' v, make_Codes_Rules_7 N n k c out r [] = some (.go ((w64 (n - 1), ()), (c', out ++ [(r.1, r.2.1, v, ())], ()))) ∧ COk c' ∧ v.length ≤ 2 ∧ ∀ b ∈ v, BOk b := by
  unfold make_Codes_Rules_7
  have := loopK_of (N := N) (step := fun y => make_Codes_Rules_s8 N y.1.1 y.1.2.1 y.2.1 y.2.2.1 y.2.2.2.1 y.2.2.2.2.1) (J := fun (e : ((Int × Unit) × (Cd × (List Rl) × Rl × (List Bx) × Unit))) => make_Codes_Rules_9 N e.1.1 e.2.1 e.2.2.1 e.2.2.2.1 e.2.2.2.2.1)
    (I := fun y => ∃ (k : Int) (c : Cd) (v : List Bx), y = ((n, k, ()), (c, out, r, v, ())) ∧ COk c ∧ 0 ≤ k ∧ k + v.length ≤ 2 ∧ ∀ b ∈ v, BOk b) (μ := fun y => y.1.2.1.toNat)
    (T := fun q => ∃ (c' : Cd) (v : List Bx), q = .go ((w64 (n - 1), ()), (c', out ++ [(r.1, r.2.1, v, ())], ())) ∧ COk c' ∧ v.length ≤ 2 ∧ ∀ b ∈ v, BOk b) ?_
    (x := ((n, k, ()), (c, out, r, [], ()))) ⟨k, c, [], rfl, hc, k0, by simpa using k2, by simp⟩ (by simp only; omega)
  · obtain ⟨q, h1, c', v, rfl, h2⟩ := this
    exact ⟨c', v, h1, h2⟩
  · rintro _ ⟨k, c, v, rfl, hc, h0, h2, hv⟩
    show ∃ q, make_Codes_Rules_s8 N n k c out r v = some q ∧ _
    unfold make_Codes_Rules_s8
    by_cases hk : 0 < k
    · obtain ⟨b, c', e, hc', hb⟩ := box_ok N hc hN
      have hvl : v.length ≤ 2 := by omega
      rw [dpos hk, cond_true, e, Option.bind_some, room_of (by simp only [List.length_cons, List.length_nil]; omega), cond_true, w64_of (by omega) (by omega)]
      refine ⟨_, rfl, ⟨k - 1, c', v ++ [b], rfl, hc', by omega, ?_, ?_⟩, ?_⟩
      · rw [List.length_append]; simp only [List.length_cons, List.length_nil]; omega
      · intro x hx
        rcases List.mem_append.1 hx with hx | hx
        · exact hv x hx
        · obtain rfl := List.mem_singleton.1 hx; exact hb
      · simp only; omega
    · rw [dneg hk, cond_false]
      refine ⟨_, rfl, .go ((w64 (n - 1), ()), (c, out ++ [(r.1, r.2.1, v, ())], ())), ?_, c, v, rfl, hc, by omega, hv⟩
      show make_Codes_Rules_9 N n c out r v = _
      unfold make_Codes_Rules_9
      rw [room_of (by simp only [List.length_cons, List.length_nil]; omega)]; rfl
theorem rules_6 {c : Cd} (hc : COk c) (n : Int) {out : List Rl} (ho : out.length ≤ 1000) (r : Rl) : ∃ c' v, make_Codes_Rules_6 N n c out r [] = some (.go ((w64 (n - 1), ()), (c', out ++ [(r.1, r.2.1, v, ())], ()))) ∧ COk c' ∧ v.length ≤ 2 ∧ ∀ b ∈ v, BOk b := by
  unfold make_Codes_Rules_6
  obtain ⟨u, c1, e, u0, u1, k1⟩ := next_ok N (n := 2) hc (by omega)
  rw [e, Option.bind_some]
  have hw : w64 (1 + u) = 1 + u := w64_of (by omega) (by omega)
  show ∃ c' v, make_Codes_Rules_7 N n (w64 (1 + u)) c1 out r [] = _ ∧ _
  rw [hw]
  exact rules_7 N hN k1 n _ (by omega) (by omega) ho r
theorem rules_ok {m : Nat} (hm : m ≤ 100) {c : Cd} (hc : COk c) : ∃ l c', make_Codes_Rules N (m : Int) c = some ((), (c', l, ())) ∧ COk c' ∧ LRok m l := by
  unfold make_Codes_Rules
  rw [w64_of (by omega) (by omega)]
  obtain ⟨u, c1, e, u0, u1, k1⟩ := next_ok N (n := (m : Int) + 1) hc (by omega)
  rw [e, Option.bind_some]
  unfold make_Codes_Rules_1
  have := loopK_of (N := N) (step := fun y => make_Codes_Rules_s2 N y.1.1 y.2.1 y.2.2.1) (J := fun (e : ((Unit) × (Cd × (List Rl) × Unit))) => make_Codes_Rules_11 N e.2.1 e.2.2.1)
    (I := fun y => ∃ (n : Int) (c : Cd) (out : List Rl), y = ((n, ()), (c, out, ())) ∧ COk c ∧ 0 ≤ n ∧ n + out.length ≤ m ∧ ∀ r ∈ out, RlOk r) (μ := fun y => y.1.1.toNat)
    (T := fun q => ∃ (c' : Cd) (l : List Rl), q = ((), (c', l, ())) ∧ COk c' ∧ LRok m l) ?_
    (x := ((u, ()), (c1, [], ()))) ⟨u, c1, [], rfl, k1, u0, by simp only [List.length_nil]; omega, by simp⟩ (by simp only; omega)
  · obtain ⟨q, h1, c', l, rfl, h2, h3⟩ := this
    exact ⟨l, c', h1, h2, h3⟩
  · rintro _ ⟨n, c, out, rfl, hc, h0, h2, hv⟩
    show ∃ q, make_Codes_Rules_s2 N n c out = some q ∧ _
    unfold make_Codes_Rules_s2
    by_cases hn : 0 < n
    · rw [dpos hn, cond_true]
      have fin : ∀ (c' : Cd) (r : Rl) (v : List Bx), COk c' → v.length ≤ 2 → (∀ b ∈ v, BOk b) → r.2.1.length ≤ 6 → (∃ (n' : Int) (c : Cd) (out' : List Rl), (((w64 (n - 1), ()), (c', out ++ [(r.1, r.2.1, v, ())], ())) : (Int × Unit) × (Cd × List Rl × Unit)) = ((n', ()), (c, out', ())) ∧ COk c ∧ 0 ≤ n' ∧ n' + out'.length ≤ m ∧ ∀ r ∈ out', RlOk r) ∧ (w64 (n - 1)).toNat < n.toNat := by
        intro c' r v hc' hv' hb hr
        rw [w64_of (by omega) (by omega)]
        refine ⟨⟨n - 1, c', _, rfl, hc', by omega, ?_, ?_⟩, by omega⟩
        · rw [List.length_append]; simp only [List.length_cons, List.length_nil]; omega
        · intro x hx
          rcases List.mem_append.1 hx with hx | hx
          · exact hv x hx
          · obtain rfl := List.mem_singleton.1 hx; exact ⟨hv', hb, hr⟩
      unfold make_Codes_Rules_3 make_Codes_Rules_5
      obtain ⟨a, c2, e2, a0, a1, k2⟩ := next_ok N (n := 3) hc (by omega)
      rw [e2, Option.bind_some]
      by_cases ha : a = 2
      · obtain ⟨t, c3, e3, t0, t1, k3⟩ := next_ok N (n := 3) k2 (by omega)
        rw [dpos ha, cond_true, e3, Option.bind_some, inR_of t0 (by simpa using t1), cond_true]
        have ht : ∀ L : List (List UInt8), (∀ x ∈ L, x.length ≤ 6) → (L.getD t.toNat []).length ≤ 6 := by
          intro L hL
          rcases Nat.lt_or_ge t.toNat L.length with h | h
          · rw [List.getD, List.getElem?_eq_getElem h]; exact hL _ (List.getElem_mem h)
          · rw [List.getD, List.getElem?_eq_none h]; simp
        obtain ⟨c4, v, e4, q1, q2, q3⟩ := rules_6 N hN k3 n (out := out) (by omega) (a, ([[103, 111, 108, 100], [115, 105, 108, 118, 101, 114], [120, 49]] : List (List UInt8)).getD t.toNat [], [], ())
        exact ⟨_, e4, fin c4 _ v q1 q2 q3 (ht _ (by decide))⟩
      · rw [dneg ha, cond_false]
        obtain ⟨c4, v, e4, q1, q2, q3⟩ := rules_6 N hN k2 n (out := out) (by omega) (a, [], [], ())
        exact ⟨_, e4, fin c4 _ v q1 q2 q3 (by simp)⟩
    · rw [dneg hn, cond_false]
      exact ⟨_, rfl, _, rfl, c, out, rfl, hc, by omega, hv⟩
end
end Go.Proofs.Ytgbkkfpheahdfaa.Pl
