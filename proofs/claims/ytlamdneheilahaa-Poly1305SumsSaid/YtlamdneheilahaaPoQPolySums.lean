/- Plain: the law Poly1305Sums. -/
import Derived.Test.YtlamdneheilahaaPoQPolyRef
import Derived.Test.YtlamdneheilahaaFnsPoly1305SumsA
set_option linter.unusedVariables false
set_option linter.unusedSimpArgs false
namespace Go.Proofs.Ytlamdneheilahaa.Pl
open Go Poly
theorem both_ok (N : Nat) (hN : 4611686018427387904 ≤ N) (key : List UInt8) {b : List UInt8} (hb : b.length ≤ 4611686018427387) : ∃ ok t, poly1305_Sum N key b = some ((ok, ()), (t, ())) ∧ ref11_Sum N key b = some ((ok, ()), (t, ())) ∧ t.length ≤ 16 := by
  by_cases h : key.length = 32
  · exact ⟨true, _, sum_ok N hN h (by omega) (by omega), rsum_ok N hN h (by omega) (by omega), by rw [tag_len]; exact Nat.le_refl _⟩
  · exact ⟨false, _, sum_no N h, rsum_no N h, by simp⟩
theorem sums_8 (N : Nat) (hN : 4611686018427387904 ≤ N) {key b k o : List UInt8} (hb : b.length ≤ 600) (ho : o.length ≤ 600) : law11_Poly1305Sums_7 N key b k o = some ((true, ()), ()) := by
  unfold law11_Poly1305Sums_7 law11_Poly1305Sums_8
  have h3N : 3 < N := by omega
  have hall : ∀ i, i < 3 → ∃ x y, ([[key, b], [k, b], [k, o]] : List (List (List UInt8))).getD i (List.replicate 2 []) = [x, y] ∧ y.length ≤ 600 := by
    intro i hi
    rcases (by omega : i = 0 ∨ i = 1 ∨ i = 2) with rfl | rfl | rfl
    · exact ⟨key, b, rfl, hb⟩
    · exact ⟨k, b, rfl, hb⟩
    · exact ⟨k, o, rfl, ho⟩
  have hlen : ([[key, b], [k, b], [k, o]] : List (List (List UInt8))).length = 3 := rfl
  simp only []
  generalize ([[key, b], [k, b], [k, o]] : List (List (List UInt8))) = L at hall hlen
  refine (loopK_run (fun i : Nat => (((L.length : Int), (i : Int), ()), (L, ()))) (n := 3) ?_ (e := ((), ())) ?_ h3N).trans rfl
  · intro i hi
    obtain ⟨x, y, e, hy⟩ := hall i hi
    obtain ⟨ok, t, e1, e2, lt⟩ := both_ok N hN x (b := y) (by omega)
    show law11_Poly1305Sums_s9 N _ _ L = _
    unfold law11_Poly1305Sums_s9
    simp (disch := omega) only [dpos, dneg, w64_of, inR_of, room_of, tmod_of, cond_true, cond_false, Bool.and_self, Bool.and_true, Bool.true_and, Bool.and_false, Bool.false_and, Bool.not_true, Bool.not_false, Option.bind_some, List.length_cons, List.length_nil, Nat.zero_add, Int.toNat_natCast, e, List.getD_cons_zero, List.getD_cons_succ, e1, e2, equal_ok, decide_true, Int.natCast_add, Int.natCast_one]
  · show law11_Poly1305Sums_s9 N _ _ L = _
    unfold law11_Poly1305Sums_s9
    simp (disch := omega) only [dpos, dneg, w64_of, inR_of, room_of, tmod_of, cond_true, cond_false, Bool.and_self, Bool.and_true, Bool.true_and, Bool.and_false, Bool.false_and, Bool.not_true, Bool.not_false, Option.bind_some, List.length_cons, List.length_nil, Nat.zero_add]
theorem sums_4 (N : Nat) (hN : 4611686018427387904 ≤ N) {key b k o : List UInt8} (f : UInt8) (hb : b.length ≤ 600) (ho : o.length ≤ 600) (hk : k.length = 32) : law11_Poly1305Sums_4 N key b f k o = some ((true, ()), ()) := by
  unfold law11_Poly1305Sums_4 law11_Poly1305Sums_5
  have := loopK_of (N := N) (step := fun y => law11_Poly1305Sums_s6 N y.1.1 y.1.2.1 y.1.2.2.1 y.1.2.2.2.1 y.1.2.2.2.2.1 y.2.1 y.2.2.1) (J := fun (e : (((List UInt8) × (List UInt8) × Unit) × ((List UInt8) × (List UInt8) × Unit))) => law11_Poly1305Sums_7 N e.1.1 e.1.2.1 e.2.1 e.2.2.1)
    (I := fun y => ∃ i : Nat, y = ((key, b, f, (k.length : Int), (i : Int), ()), (y.2.1, o, ())) ∧ i ≤ k.length ∧ y.2.1.length = 32) (μ := fun y => ((k.length : Int) - y.1.2.2.2.2.1).toNat) (T := fun r => r = ((true, ()), ())) ?_
    (x := ((key, b, f, (k.length : Int), 0, ()), (k, o, ()))) ⟨0, rfl, by omega, hk⟩ (by simp only; omega)
  · obtain ⟨r, h1, rfl⟩ := this
    exact h1
  · rintro ⟨⟨key', b', f', n, j, _⟩, ⟨k', o', _⟩⟩ ⟨i, e, hi, hl⟩
    simp only [Prod.mk.injEq] at e
    obtain ⟨⟨rfl, rfl, rfl, rfl, rfl, _⟩, _, rfl, _⟩ := e
    simp only at hl ⊢
    show ∃ q, law11_Poly1305Sums_s6 N key' b' f' (k.length : Int) (i : Int) k' o' = some q ∧ _
    unfold law11_Poly1305Sums_s6
    by_cases hlt : i < k.length
    · by_cases hf : f' &&& 2 = 2
      · simp (disch := omega) only [dpos, dneg, w64_of, inR_of, room_of, tmod_of, cond_true, cond_false, Bool.and_self, Bool.and_true, Bool.true_and, Bool.and_false, Bool.false_and, Bool.not_true, Bool.not_false, Option.bind_some, List.length_cons, List.length_nil, Nat.zero_add, hf, decide_true]
        exact ⟨_, rfl, ⟨i + 1, rfl, by omega, by simp [hl]⟩, by simp only; omega⟩
      · rw [dneg hf]
        simp (disch := omega) only [dpos, dneg, w64_of, inR_of, room_of, tmod_of, cond_true, cond_false, Bool.and_self, Bool.and_true, Bool.true_and, Bool.and_false, Bool.false_and, Bool.not_true, Bool.not_false, Option.bind_some, List.length_cons, List.length_nil, Nat.zero_add]
        exact ⟨_, rfl, ⟨i + 1, rfl, by omega, hl⟩, by simp only; omega⟩
    · simp (disch := omega) only [dpos, dneg, w64_of, inR_of, room_of, tmod_of, cond_true, cond_false, Bool.and_self, Bool.and_true, Bool.true_and, Bool.and_false, Bool.false_and, Bool.not_true, Bool.not_false, Option.bind_some, List.length_cons, List.length_nil, Nat.zero_add]
      exact ⟨_, rfl, _, sums_8 N hN hb ho, rfl⟩
theorem sums_1 (N : Nat) (hN : 4611686018427387904 ≤ N) (key : List UInt8) {b : List UInt8} (codes : List UInt8) (f : UInt8) (hb : b.length ≤ 600) : law11_Poly1305Sums_1 N key b codes f = some ((true, ()), ()) := by
  unfold law11_Poly1305Sums_1
  obtain ⟨c0, e0, k0⟩ := new_ok N codes (m := 60) (by omega) (by omega)
  obtain ⟨c1, k, e1, l1, k1⟩ := bytes_ok (N := N) (n := 32) k0 (by omega) (by omega) (by omega)
  have l1' : k.length = 32 := l1
  simp (disch := omega) only [dpos, dneg, w64_of, inR_of, room_of, tmod_of, cond_true, cond_false, Bool.and_self, Bool.and_true, Bool.true_and, Bool.and_false, Bool.false_and, Bool.not_true, Bool.not_false, Option.bind_some, List.length_cons, List.length_nil, Nat.zero_add, e0, e1]
  unfold law11_Poly1305Sums_2
  have := loopK_of (N := N) (step := fun y => law11_Poly1305Sums_s3 N y.1.1 y.1.2.1 y.1.2.2.1 y.1.2.2.2.1 y.1.2.2.2.2.1 y.2.1 y.2.2.1) (J := fun (e : (((List UInt8) × (List UInt8) × UInt8 × Unit) × ((List UInt8) × (List UInt8) × Unit))) => law11_Poly1305Sums_4 N e.1.1 e.1.2.1 e.1.2.2.1 e.2.1 e.2.2.1)
    (I := fun y => ∃ i : Nat, y = ((key, b, f, (b.length : Int), (i : Int), ()), (k, y.2.2.1, ())) ∧ i ≤ b.length ∧ y.2.2.1.length = b.length) (μ := fun y => ((b.length : Int) - y.1.2.2.2.2.1).toNat) (T := fun r => r = ((true, ()), ())) ?_
    (x := ((key, b, f, (b.length : Int), 0, ()), (k, b, ()))) ⟨0, rfl, by omega, rfl⟩ (by simp only; omega)
  · obtain ⟨r, h1, rfl⟩ := this
    exact h1
  · rintro ⟨⟨key', b', f', n, j, _⟩, ⟨k', o', _⟩⟩ ⟨i, e, hi, hl⟩
    simp only [Prod.mk.injEq] at e
    obtain ⟨⟨rfl, rfl, rfl, rfl, rfl, _⟩, rfl, _⟩ := e
    simp only at hl ⊢
    show ∃ q, law11_Poly1305Sums_s3 N key' b' f' (b'.length : Int) (i : Int) k' o' = some q ∧ _
    unfold law11_Poly1305Sums_s3
    by_cases hlt : i < b'.length
    · by_cases hf : f' &&& 1 = 1
      · simp (disch := omega) only [dpos, dneg, w64_of, inR_of, room_of, tmod_of, cond_true, cond_false, Bool.and_self, Bool.and_true, Bool.true_and, Bool.and_false, Bool.false_and, Bool.not_true, Bool.not_false, Option.bind_some, List.length_cons, List.length_nil, Nat.zero_add, hf, decide_true]
        exact ⟨_, rfl, ⟨i + 1, rfl, by omega, by simp [hl]⟩, by simp only; omega⟩
      · rw [dneg hf]
        simp (disch := omega) only [dpos, dneg, w64_of, inR_of, room_of, tmod_of, cond_true, cond_false, Bool.and_self, Bool.and_true, Bool.true_and, Bool.and_false, Bool.false_and, Bool.not_true, Bool.not_false, Option.bind_some, List.length_cons, List.length_nil, Nat.zero_add]
        exact ⟨_, rfl, ⟨i + 1, rfl, by omega, hl⟩, by simp only; omega⟩
    · have ho : o'.length ≤ 600 := by omega
      simp (disch := omega) only [dpos, dneg, w64_of, inR_of, room_of, tmod_of, cond_true, cond_false, Bool.and_self, Bool.and_true, Bool.true_and, Bool.and_false, Bool.false_and, Bool.not_true, Bool.not_false, Option.bind_some, List.length_cons, List.length_nil, Nat.zero_add]
      exact ⟨_, rfl, _, sums_4 N hN f' hb ho l1', rfl⟩
theorem sums (key : List UInt8) (hk : key.length ≤ 9223372036854775807) (b : List UInt8) (hb : b.length ≤ 9223372036854775807) (codes : List UInt8) (hc : codes.length ≤ 9223372036854775807) (f : UInt8) : law11_Poly1305Sums 18446744073709551616 key b codes f = some ((true, ()), ()) := by
  unfold law11_Poly1305Sums
  rw [awake11]
  generalize hN0 : 18446744073709551616 = N
  have hN : 4611686018427387904 ≤ N := by omega
  clear hN0
  by_cases h : (600 : Int) < (b.length : Int)
  · have hc : (cut b 0 600).length ≤ 600 := by simp [cut]; omega
    simp (disch := omega) only [dpos, dneg, w64_of, inR_of, room_of, tmod_of, cond_true, cond_false, Bool.and_self, Bool.and_true, Bool.true_and, Bool.and_false, Bool.false_and, Bool.not_true, Bool.not_false, Option.bind_some, List.length_cons, List.length_nil, Nat.zero_add, sums_1]
  · simp (disch := omega) only [dpos, dneg, w64_of, inR_of, room_of, tmod_of, cond_true, cond_false, Bool.and_self, Bool.and_true, Bool.true_and, Bool.and_false, Bool.false_and, Bool.not_true, Bool.not_false, Option.bind_some, List.length_cons, List.length_nil, Nat.zero_add, sums_1]
end Go.Proofs.Ytlamdneheilahaa.Pl
