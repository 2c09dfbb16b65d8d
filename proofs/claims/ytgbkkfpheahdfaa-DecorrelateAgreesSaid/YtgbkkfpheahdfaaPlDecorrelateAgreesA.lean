/- The ghost machine: an evaluator of the program's text over plain data, and its soundness. -/
import Derived.Test.YtgbkkfpheahdfaaGmLoop
import Derived.Test.YtgbkkfpheahdfaaGmInt
import Derived.KernelRfl
import Derived.Test.YtgbkkfpheahdfaaFnsDecorrelateAgreesB
import Derived.Test.YtgbkkfpheahdfaaFnsDecorrelateAgreesA
import Derived.Test.YtgbkkfpheahdfaaFnsDecorrelateAgreesC
set_option linter.unusedVariables false
set_option linter.unusedSimpArgs false
/- Plain: rules by which a walk over shallow functions is decided. -/
namespace Go.Proofs.Ytgbkkfpheahdfaa.Pl
open Go
theorem dpos {p : Prop} [Decidable p] (h : p) : decide p = true := decide_eq_true h
theorem dneg {p : Prop} [Decidable p] (h : ¬ p) : decide p = false := decide_eq_false h
theorem w64_of {x : Int} (h : -9223372036854775808 ≤ x) (h' : x ≤ 9223372036854775807) : w64 x = x := w64_id h h'
theorem inR_of {i : Int} {n : Nat} (h : 0 ≤ i) (h' : i < (n : Int)) : inR i n = true := by simp [inR, h, h']
theorem room_of {n k : Nat} (h : n * k ≤ 140737488355328) : room n k = true := by simp [room, h]
theorem tmod_of {a b : Int} (h : 0 ≤ a) : a.tmod b = a % b := Int.tmod_eq_emod_of_nonneg h

theorem take_snoc {α : Type} (l : List α) (d : α) {i : Nat} (h : i < l.length) : l.take (i + 1) = l.take i ++ [l.getD i d] := by
  rw [List.take_add_one, List.getElem?_eq_getElem h]
  simp [List.getD, h]
theorem cut_at (b : List UInt8) (k w : Nat) : cut b k (k + w) = (b.drop k).take w := by
  unfold cut; rw [List.drop_take]; congr 1; omega
end Go.Proofs.Ytgbkkfpheahdfaa.Pl

/- Plain: the maker of inputs (shallow functions of make). -/
namespace Go.Proofs.Ytgbkkfpheahdfaa.Pl
open Go

/-- A maker whose place lies in its list. -/
def COk (c : List UInt8 × (Int × Unit)) : Prop := 0 ≤ c.2.1 ∧ c.2.1 ≤ (c.1.length : Int) ∧ c.1.length ≤ 1000000000000000
theorem next_ok (N : Nat) {c : List UInt8 × (Int × Unit)} {n : Int} (h : COk c) (hn : 0 < n) : ∃ v c', make_Codes_Next N n c = some ((v, ()), (c', ())) ∧ 0 ≤ v ∧ v < n ∧ COk c' := by
  obtain ⟨l, i, u⟩ := c
  obtain ⟨h1, h2, h3⟩ := h
  simp only at h1 h2 h3
  have hb : (l.length : Int) ≤ 1000000000000000 := by omega
  unfold make_Codes_Next make_Codes_Left
  simp only [Option.bind]
  by_cases hlt : i < (l.length : Int)
  · have e1 : w64 (i + 1) = i + 1 := w64_of (by omega) (by omega)
    have e2 : w64 (i + 1 - 1) = i := by rw [w64_of (by omega) (by omega)]; omega
    simp only [hlt, decide_true, Bool.not_true, cond_false, e1, e2]
    have e3 : inR i l.length = true := by simp [inR, h1, hlt]
    have e4 : (!(decide (n = 0))) = true := by simp; omega
    simp only [e3, e4, cond_true]
    refine ⟨_, _, rfl, ?_, ?_, by simp only; omega, by simp only; omega, h3⟩
    · exact Int.tmod_nonneg _ (by omega)
    · exact Int.tmod_lt_of_pos _ hn
  · simp only [hlt, decide_false, Bool.not_false, cond_true]
    exact ⟨0, _, rfl, by omega, hn, h1, h2, h3⟩
theorem bytes_ok {N : Nat} {c : List UInt8 × (Int × Unit)} {n : Int} (h : COk c) (h0 : 0 ≤ n) (hn : n ≤ 1000000) (hN : n.toNat < N) : ∃ c' out, make_Codes_Bytes N n c = some ((), (c', out, ())) ∧ out.length = n.toNat ∧ COk c' := by
  unfold make_Codes_Bytes make_Codes_Bytes_1
  have := loopK_of (N := N) (step := fun y => make_Codes_Bytes_s2 N y.1.1 y.1.2.1 y.2.1 y.2.2.1) (J := fun (e : ((Unit) × (((List UInt8) × (Int × Unit)) × (List UInt8) × Unit))) => make_Codes_Bytes_3 N e.2.1 e.2.2.1)
    (I := fun y => y.1.1 = n ∧ 0 ≤ y.1.2.1 ∧ y.1.2.1 ≤ n ∧ COk y.2.1 ∧ y.2.2.1.length = y.1.2.1.toNat) (μ := fun y => (n - y.1.2.1).toNat) (T := fun r => ∃ c' out, r = ((), (c', out, ())) ∧ out.length = n.toNat ∧ COk c') ?_
    (x := ((n, 0, ()), (c, [], ()))) ⟨rfl, by simp, by simpa using h0, h, by simp⟩ (by simpa using hN)
  · obtain ⟨r, h1, c', out, rfl, h2, h3⟩ := this
    exact ⟨c', out, h1, h2, h3⟩
  · rintro ⟨⟨n', i, _⟩, ⟨p, out, _⟩⟩ ⟨h1, h2, h3, h4, h5⟩
    simp only at h1 h2 h3 h4 h5
    subst h1
    simp only [make_Codes_Bytes_s2]
    by_cases hlt : i < n'
    · obtain ⟨v, c', e, h6, h7, h8⟩ := next_ok N (n := 256) h4 (by omega)
      have e1 : w64 (i + 1) = i + 1 := w64_of (by omega) (by omega)
      simp only [hlt, decide_true, cond_true, e, Option.bind]
      have e2 : room (out.length + [iu8 (w64 (v + w64 (i * 7)))].length) 1 = true := by
        unfold room; simp; omega
      rw [e2, cond_true, e1]
      refine ⟨_, rfl, ⟨rfl, by simp only; omega, by simp only; omega, h8, by simp; omega⟩, by simp only; omega⟩
    · simp only [hlt, decide_false, cond_false]
      refine ⟨_, rfl, _, rfl, p, out, rfl, by rw [h5]; congr 1; omega, h4⟩
theorem new_ok (N : Nat) (l : List UInt8) {m : Int} (h0 : 0 ≤ m) (hm : m ≤ 1000000) : ∃ c, make_New N l m = some ((), (c, ())) ∧ COk c := by
  unfold make_New
  by_cases hlt : m < (l.length : Int)
  · simp only [hlt, decide_true, cond_true, h0, Int.le_refl, Bool.and_self, show m ≤ (l.length : Int) by omega]
    exact ⟨_, rfl, by simp, by simp, by simp [cut]; omega⟩
  · simp only [hlt, decide_false, cond_false]
    exact ⟨_, rfl, by simp, by simp, by simp only; omega⟩
end Go.Proofs.Ytgbkkfpheahdfaa.Pl

/- Plain: ranges and boxes (decorrelate): what they have in common, and what is left. -/
namespace Go.Proofs.Ytgbkkfpheahdfaa.Pl
open Go
abbrev V := Int × (UInt64 × (UInt64 × Unit))
abbrev Sd := V × (V × Unit)
abbrev Bx := V × (V × (V × (V × (Int × (Int × (List Int × (List Int × Unit)))))))
def vk (v : V) : Int := v.1 * 340282366920938463463374607431768211456 + (v.2.1.toNat : Int) * 18446744073709551616 + v.2.2.1.toNat
def v0 : V := (0, 0, 0, ())
def s0 : Sd := (v0, v0, ())
theorem vk_lt (a b : V) : vk a < vk b ↔ a.1 < b.1 ∨ (a.1 = b.1 ∧ (a.2.1 < b.2.1 ∨ (a.2.1 = b.2.1 ∧ a.2.2.1 < b.2.2.1))) := by
  unfold vk
  rw [UInt64.lt_iff_toNat_lt, UInt64.lt_iff_toNat_lt, ← UInt64.toNat_inj]
  have := a.2.1.toNat_lt; have := a.2.2.1.toNat_lt; have := b.2.1.toNat_lt; have := b.2.2.1.toNat_lt
  omega
theorem vk_inj {a b : V} (h : vk a = vk b) : a = b := by
  obtain ⟨a1, a2, a3, _⟩ := a
  obtain ⟨b1, b2, b3, _⟩ := b
  unfold vk at h
  simp only at h
  have := a2.toNat_lt; have := a3.toNat_lt; have := b2.toNat_lt; have := b3.toNat_lt
  obtain rfl : a1 = b1 := by omega
  obtain rfl : a2 = b2 := UInt64.toNat_inj.1 (by omega)
  obtain rfl : a3 = b3 := UInt64.toNat_inj.1 (by omega)
  rfl
def cv (a b : V) : Int := if vk a < vk b then -1 else if vk b < vk a then 1 else 0
section
variable {S E R : Type} {step : S → Option (Lo S E R)} {J : E → Option R} {N : Nat} {x : S}
theorem lk_go {y : S} (h : step x = some (.go y)) : loopK (N + 1) step J x = loopK N step J y := by rw [loopK_succ, h]; rfl
theorem lk_br {e : E} (h : step x = some (.br e)) : loopK (N + 1) step J x = J e := by rw [loopK_succ, h]; rfl
theorem lk_rt {r : R} (h : step x = some (.rt r)) : loopK (N + 1) step J x = some r := by rw [loopK_succ, h]; rfl
end
theorem or_go (N : Nat) (l : List Int) (k : Nat) (h : k < l.length) (hl : l.length ≤ 1000) (hz : l.getD k 0 = 0) : cmp_Or_int__s2 N 0 l (l.length : Int) (k : Int) = some (.go ((0, l, (l.length : Int), ((k + 1 : Nat) : Int), ()), ())) := by
  unfold cmp_Or_int__s2
  have e : ((k : Nat) : Int).toNat = k := by omega
  simp (disch := omega) only [dpos, dneg, w64_of, inR_of, room_of, tmod_of, cond_true, cond_false, Bool.and_self, Bool.and_true, Bool.true_and, Bool.and_false, Bool.false_and, Bool.not_true, Bool.not_false, Option.bind_some, List.length_cons, List.length_nil, Nat.zero_add, e, hz, Int.natCast_add, Int.natCast_one, decide_true]
theorem or_rt (N : Nat) (l : List Int) (k : Nat) (h : k < l.length) (hl : l.length ≤ 1000) (hz : l.getD k 0 ≠ 0) : cmp_Or_int__s2 N 0 l (l.length : Int) (k : Int) = some (.rt ((l.getD k 0, ()), ())) := by
  unfold cmp_Or_int__s2
  have e : ((k : Nat) : Int).toNat = k := by omega
  simp (disch := first | omega | exact hz) only [dpos, dneg, w64_of, inR_of, room_of, tmod_of, cond_true, cond_false, Bool.and_self, Bool.and_true, Bool.true_and, Bool.and_false, Bool.false_and, Bool.not_true, Bool.not_false, Option.bind_some, List.length_cons, List.length_nil, Nat.zero_add, e]
theorem or_ok (M : Nat) (x y z : Int) : cmp_Or_int_ (M + 5) [x, y, z] = some ((if x = 0 then (if y = 0 then z else y) else x, ()), ()) := by
  unfold cmp_Or_int_ cmp_Or_int__1
  by_cases hx : x = 0
  · rw [if_pos hx]
    refine (lk_go (or_go (M + 5) [x, y, z] 0 (by simp) (by simp) hx)).trans ?_
    by_cases hy : y = 0
    · rw [if_pos hy]
      refine (lk_go (or_go (M + 5) [x, y, z] 1 (by simp) (by simp) hy)).trans ?_
      by_cases hz : z = 0
      · refine (lk_go (or_go (M + 5) [x, y, z] 2 (by simp) (by simp) hz)).trans ?_
        refine (lk_br (e := ((0, ()), ())) ?_).trans (by rw [hz]; rfl)
        show cmp_Or_int__s2 (M + 5) 0 [x, y, z] _ _ = _
        unfold cmp_Or_int__s2
        have hl : ¬ (((2 + 1 : Nat) : Int) < (([x, y, z] : List Int).length : Int)) := by simp
        rw [dneg hl]
        rfl
      · exact lk_rt (or_rt (M + 5) [x, y, z] 2 (by simp) (by simp) hz)
    · rw [if_neg hy]
      exact lk_rt (or_rt (M + 5) [x, y, z] 1 (by simp) (by simp) hy)
  · rw [if_neg hx]
    exact lk_rt (or_rt (M + 5) [x, y, z] 0 (by simp) (by simp) hx)
theorem cv_lt {a b : V} (h : vk a < vk b) : cv a b = -1 := by unfold cv; rw [if_pos h]
theorem cv_gt {a b : V} (h : vk b < vk a) : cv a b = 1 := by unfold cv; rw [if_neg (by omega), if_pos h]
theorem cv_eq {a b : V} (h : ¬ vk a < vk b) (h' : ¬ vk b < vk a) : cv a b = 0 := by unfold cv; rw [if_neg h, if_neg h']
theorem cmpi (N : Nat) (x y : Int) : cmp_Compare_int_ N x y = some ((if x < y then -1 else if y < x then 1 else 0, ()), ()) := by
  unfold cmp_Compare_int_ cmp_isNaN_int_
  by_cases h : x < y
  · simp [h]
  · by_cases h' : y < x <;> simp [h, h']
theorem cmpu (N : Nat) (x y : UInt64) : cmp_Compare_uint64_ N x y = some ((if x < y then -1 else if y < x then 1 else 0, ()), ()) := by
  unfold cmp_Compare_uint64_ cmp_isNaN_uint64_
  by_cases h : x < y
  · simp [h]
  · by_cases h' : y < x <;> simp [h, h']
theorem compare_ok' (M : Nat) (a b : V) : decorrelate_value_compare (M + 5) a b = some ((cv a b, ()), ()) := by
  unfold decorrelate_value_compare
  rw [cmpi, cmpu, cmpu]
  simp only [Option.bind_some, or_ok]
  have e1 := vk_lt a b
  have e2 := vk_lt b a
  by_cases i1 : a.1 < b.1
  · rw [cv_lt (e1.2 (.inl i1))]; simp [i1]
  · by_cases i2 : b.1 < a.1
    · rw [cv_gt (e2.2 (.inl i2))]; simp [i1, i2]
    · have i3 : a.1 = b.1 := by omega
      by_cases j1 : a.2.1 < b.2.1
      · rw [cv_lt (e1.2 (.inr ⟨i3, .inl j1⟩))]; simp [i1, i2, j1]
      · by_cases j2 : b.2.1 < a.2.1
        · rw [cv_gt (e2.2 (.inr ⟨i3.symm, .inl j2⟩))]; simp [i1, i2, j1, j2]
        · have j3 : a.2.1 = b.2.1 := UInt64.toNat_inj.1 (by rw [UInt64.lt_iff_toNat_lt] at j1 j2; omega)
          by_cases k1 : a.2.2.1 < b.2.2.1
          · rw [cv_lt (e1.2 (.inr ⟨i3, .inr ⟨j3, k1⟩⟩))]; simp [i1, i2, j1, j2, k1]
          · by_cases k2 : b.2.2.1 < a.2.2.1
            · rw [cv_gt (e2.2 (.inr ⟨i3.symm, .inr ⟨j3.symm, k2⟩⟩))]; simp [i1, i2, j1, j2, k1, k2]
            · rw [cv_eq (fun h => (e1.1 h).elim i1 fun h => h.2.elim j1 fun h => k1 h.2) (fun h => (e2.1 h).elim i2 fun h => h.2.elim j2 fun h => k2 h.2)]; simp [i1, i2, j1, j2, k1, k2]
theorem compare_ok (N : Nat) (a b : V) (hN : 4611686018427387904 ≤ N) : decorrelate_value_compare N a b = some ((cv a b, ()), ()) := by
  obtain ⟨M, rfl⟩ : ∃ M, N = M + 5 := ⟨N - 5, by omega⟩
  exact compare_ok' M a b
theorem cv_neg (a b : V) : cv a b < 0 ↔ vk a < vk b := by unfold cv; split <;> (try split) <;> omega
theorem cv_pos (a b : V) : 0 < cv a b ↔ vk b < vk a := by unfold cv; split <;> (try split) <;> omega
theorem cv_le (a b : V) : cv a b ≤ 0 ↔ vk a ≤ vk b := by unfold cv; split <;> (try split) <;> omega
/-- What two ranges have in common. -/
def sm (s t : Sd) : Sd := (if vk s.1 < vk t.1 then t.1 else s.1, if vk t.2.1 < vk s.2.1 then t.2.1 else s.2.1, ())
def sok (s : Sd) : Bool := decide (vk s.1 ≤ vk s.2.1)
theorem side_meet (N : Nat) (s t : Sd) (hN : 4611686018427387904 ≤ N) : decorrelate_side_meet N s t = some ((sm s t, sok (sm s t), ()), ()) := by
  unfold decorrelate_side_meet decorrelate_side_meet_1 decorrelate_side_meet_2 sm sok
  simp only [compare_ok N _ _ hN, Option.bind_some, cv_neg, cv_pos, cv_le]
  by_cases h1 : vk s.1 < vk t.1 <;> by_cases h2 : vk t.2.1 < vk s.2.1 <;> simp [h1, h2]
abbrev Pr := List Sd
def okL (p q : Pr) : Bool := sok (sm (p.getD 0 s0) (q.getD 0 s0)) && (sok (sm (p.getD 1 s0) (q.getD 1 s0)) && (sok (sm (p.getD 2 s0) (q.getD 2 s0)) && (sok (sm (p.getD 3 s0) (q.getD 3 s0)) && sok (sm (p.getD 4 s0) (q.getD 4 s0)))))
def mL (p q : Pr) : Pr := [sm (p.getD 0 s0) (q.getD 0 s0), sm (p.getD 1 s0) (q.getD 1 s0), sm (p.getD 2 s0) (q.getD 2 s0), sm (p.getD 3 s0) (q.getD 3 s0), sm (p.getD 4 s0) (q.getD 4 s0)]
theorem product_meet' (M : Nat) (p0 p1 p2 p3 p4 q0 q1 q2 q3 q4 : Sd) (hN : 4611686018427387904 ≤ M + 6) : decorrelate_product_meet (M + 6) [p0, p1, p2, p3, p4] [q0, q1, q2, q3, q4] = some ((if okL [p0, p1, p2, p3, p4] [q0, q1, q2, q3, q4] = true then mL [p0, p1, p2, p3, p4] [q0, q1, q2, q3, q4] else List.replicate 5 s0, okL [p0, p1, p2, p3, p4] [q0, q1, q2, q3, q4], ()), ()) := by
  unfold decorrelate_product_meet decorrelate_product_meet_1
  show _ = some ((if (sok (sm p0 q0) && (sok (sm p1 q1) && (sok (sm p2 q2) && (sok (sm p3 q3) && sok (sm p4 q4))))) = true then [sm p0 q0, sm p1 q1, sm p2 q2, sm p3 q3, sm p4 q4] else List.replicate 5 s0, (sok (sm p0 q0) && (sok (sm p1 q1) && (sok (sm p2 q2) && (sok (sm p3 q3) && sok (sm p4 q4))))), ()), ())
  rw [loopK_succ]
  simp (disch := omega) only [decorrelate_product_meet_s2, dpos, dneg, w64_of, inR_of, room_of, tmod_of, cond_true, cond_false, Bool.and_self, Bool.and_true, Bool.true_and, Bool.and_false, Bool.false_and, Bool.not_true, Bool.not_false, Option.bind_some, List.length_cons, List.length_nil, Nat.zero_add, side_meet _ _ _ hN, show (0 : Int).toNat = 0 from rfl, List.getD_cons_zero]
  cases h0 : sok (sm p0 q0)
  · simp only [dpos, dneg, w64_of, inR_of, room_of, tmod_of, cond_true, cond_false, Bool.and_self, Bool.and_true, Bool.true_and, Bool.and_false, Bool.false_and, Bool.not_true, Bool.not_false, Option.bind_some, List.length_cons, List.length_nil, Nat.zero_add, Bool.false_and, Bool.false_eq_true, if_false]; rfl
  simp (disch := omega) only [dpos, dneg, w64_of, inR_of, room_of, tmod_of, cond_true, cond_false, Bool.and_self, Bool.and_true, Bool.true_and, Bool.and_false, Bool.false_and, Bool.not_true, Bool.not_false, Option.bind_some, List.length_cons, List.length_nil, Nat.zero_add, show ((0 : Int) + 1).toNat = 1 from rfl, List.set_cons_zero]
  rw [loopK_succ]
  simp (disch := omega) only [decorrelate_product_meet_s2, dpos, dneg, w64_of, inR_of, room_of, tmod_of, cond_true, cond_false, Bool.and_self, Bool.and_true, Bool.true_and, Bool.and_false, Bool.false_and, Bool.not_true, Bool.not_false, Option.bind_some, List.length_cons, List.length_nil, Nat.zero_add, side_meet _ _ _ hN, show ((0 : Int) + 1).toNat = 1 from rfl, List.getD_cons_zero, List.getD_cons_succ]
  cases h1 : sok (sm p1 q1)
  · simp only [dpos, dneg, w64_of, inR_of, room_of, tmod_of, cond_true, cond_false, Bool.and_self, Bool.and_true, Bool.true_and, Bool.and_false, Bool.false_and, Bool.not_true, Bool.not_false, Option.bind_some, List.length_cons, List.length_nil, Nat.zero_add, Bool.false_and, Bool.and_false, Bool.false_eq_true, if_false]; rfl
  simp (disch := omega) only [dpos, dneg, w64_of, inR_of, room_of, tmod_of, cond_true, cond_false, Bool.and_self, Bool.and_true, Bool.true_and, Bool.and_false, Bool.false_and, Bool.not_true, Bool.not_false, Option.bind_some, List.length_cons, List.length_nil, Nat.zero_add, List.set_cons_zero, List.set_cons_succ]
  rw [loopK_succ]
  simp (disch := omega) only [decorrelate_product_meet_s2, dpos, dneg, w64_of, inR_of, room_of, tmod_of, cond_true, cond_false, Bool.and_self, Bool.and_true, Bool.true_and, Bool.and_false, Bool.false_and, Bool.not_true, Bool.not_false, Option.bind_some, List.length_cons, List.length_nil, Nat.zero_add, side_meet _ _ _ hN, show ((0 : Int) + 1 + 1).toNat = 2 from rfl, List.getD_cons_zero, List.getD_cons_succ]
  cases h2 : sok (sm p2 q2)
  · simp only [dpos, dneg, w64_of, inR_of, room_of, tmod_of, cond_true, cond_false, Bool.and_self, Bool.and_true, Bool.true_and, Bool.and_false, Bool.false_and, Bool.not_true, Bool.not_false, Option.bind_some, List.length_cons, List.length_nil, Nat.zero_add, Bool.false_and, Bool.and_false, Bool.false_eq_true, if_false]; rfl
  simp (disch := omega) only [dpos, dneg, w64_of, inR_of, room_of, tmod_of, cond_true, cond_false, Bool.and_self, Bool.and_true, Bool.true_and, Bool.and_false, Bool.false_and, Bool.not_true, Bool.not_false, Option.bind_some, List.length_cons, List.length_nil, Nat.zero_add, List.set_cons_zero, List.set_cons_succ]
  rw [loopK_succ]
  simp (disch := omega) only [decorrelate_product_meet_s2, dpos, dneg, w64_of, inR_of, room_of, tmod_of, cond_true, cond_false, Bool.and_self, Bool.and_true, Bool.true_and, Bool.and_false, Bool.false_and, Bool.not_true, Bool.not_false, Option.bind_some, List.length_cons, List.length_nil, Nat.zero_add, side_meet _ _ _ hN, show ((0 : Int) + 1 + 1 + 1).toNat = 3 from rfl, List.getD_cons_zero, List.getD_cons_succ]
  cases h3 : sok (sm p3 q3)
  · simp only [dpos, dneg, w64_of, inR_of, room_of, tmod_of, cond_true, cond_false, Bool.and_self, Bool.and_true, Bool.true_and, Bool.and_false, Bool.false_and, Bool.not_true, Bool.not_false, Option.bind_some, List.length_cons, List.length_nil, Nat.zero_add, Bool.false_and, Bool.and_false, Bool.false_eq_true, if_false]; rfl
  simp (disch := omega) only [dpos, dneg, w64_of, inR_of, room_of, tmod_of, cond_true, cond_false, Bool.and_self, Bool.and_true, Bool.true_and, Bool.and_false, Bool.false_and, Bool.not_true, Bool.not_false, Option.bind_some, List.length_cons, List.length_nil, Nat.zero_add, List.set_cons_zero, List.set_cons_succ]
  rw [loopK_succ]
  simp (disch := omega) only [decorrelate_product_meet_s2, dpos, dneg, w64_of, inR_of, room_of, tmod_of, cond_true, cond_false, Bool.and_self, Bool.and_true, Bool.true_and, Bool.and_false, Bool.false_and, Bool.not_true, Bool.not_false, Option.bind_some, List.length_cons, List.length_nil, Nat.zero_add, side_meet _ _ _ hN, show ((0 : Int) + 1 + 1 + 1 + 1).toNat = 4 from rfl, List.getD_cons_zero, List.getD_cons_succ]
  cases h4 : sok (sm p4 q4)
  · simp only [dpos, dneg, w64_of, inR_of, room_of, tmod_of, cond_true, cond_false, Bool.and_self, Bool.and_true, Bool.true_and, Bool.and_false, Bool.false_and, Bool.not_true, Bool.not_false, Option.bind_some, List.length_cons, List.length_nil, Nat.zero_add, Bool.false_and, Bool.and_false, Bool.false_eq_true, if_false]; rfl
  simp (disch := omega) only [dpos, dneg, w64_of, inR_of, room_of, tmod_of, cond_true, cond_false, Bool.and_self, Bool.and_true, Bool.true_and, Bool.and_false, Bool.false_and, Bool.not_true, Bool.not_false, Option.bind_some, List.length_cons, List.length_nil, Nat.zero_add, List.set_cons_zero, List.set_cons_succ]
  rw [loopK_succ]
  simp (disch := omega) only [decorrelate_product_meet_s2, dpos, dneg, w64_of, inR_of, room_of, tmod_of, cond_true, cond_false, Bool.and_self, Bool.and_true, Bool.true_and, Bool.and_false, Bool.false_and, Bool.not_true, Bool.not_false, Option.bind_some, List.length_cons, List.length_nil, Nat.zero_add]
  rfl
theorem product_meet (N : Nat) {p q : Pr} (hp : p.length = 5) (hq : q.length = 5) (hN : 4611686018427387904 ≤ N) : decorrelate_product_meet N p q = some ((if okL p q = true then mL p q else List.replicate 5 s0, okL p q, ()), ()) := by
  obtain ⟨M, rfl⟩ : ∃ M, N = M + 6 := ⟨N - 6, by omega⟩
  match p, hp with
  | [p0, p1, p2, p3, p4], _ => match q, hq with
    | [q0, q1, q2, q3, q4], _ => exact product_meet' M p0 p1 p2 p3 p4 q0 q1 q2 q3 q4 hN
def nm (v : V) : Int := w64 (w64 (v.2.2.1.toNat : Int) - 1)
def ad (v : V) : V := (v.1, v.2.1, v.2.2.1, ())
def bxOf (p : Pr) : Bx := (ad (p.getD 0 s0).1, ad (p.getD 0 s0).2.1, ad (p.getD 1 s0).1, ad (p.getD 1 s0).2.1, nm (p.getD 2 s0).1, nm (p.getD 2 s0).2.1, [nm (p.getD 3 s0).1, nm (p.getD 3 s0).2.1], [nm (p.getD 4 s0).1, nm (p.getD 4 s0).2.1], ())
theorem product_box (N : Nat) (p : Pr) : decorrelate_product_box N p = some ((bxOf p, ()), ()) := rfl
def nv (n : Int) : V := (0, 0, iu64 (w64 (n + 1)), ())
def ofB (b : Bx) : Pr := [(ad b.1, ad b.2.1, ()), (ad b.2.2.1, ad b.2.2.2.1, ()), (nv b.2.2.2.2.1, nv b.2.2.2.2.2.1, ()), (nv (b.2.2.2.2.2.2.1.getD 0 0), nv (b.2.2.2.2.2.2.1.getD 1 0), ()), (nv (b.2.2.2.2.2.2.2.1.getD 0 0), nv (b.2.2.2.2.2.2.2.1.getD 1 0), ())]
theorem of_box (N : Nat) (b : Bx) : decorrelate_ofBox N b = some ((ofB b, ()), ()) := rfl
def b0 : Bx := (v0, v0, v0, v0, 0, 0, [0, 0], [0, 0], ())
theorem meet_ok (N : Nat) (a b : Bx) (hN : 4611686018427387904 ≤ N) : decorrelate_Meet N a b = some ((if okL (ofB a) (ofB b) = true then bxOf (mL (ofB a) (ofB b)) else b0, okL (ofB a) (ofB b), ()), ()) := by
  unfold decorrelate_Meet
  rw [of_box, of_box]
  simp only [dpos, dneg, w64_of, inR_of, room_of, tmod_of, cond_true, cond_false, Bool.and_self, Bool.and_true, Bool.true_and, Bool.and_false, Bool.false_and, Bool.not_true, Bool.not_false, Option.bind_some, List.length_cons, List.length_nil, Nat.zero_add, product_meet N (show (ofB a).length = 5 from rfl) (show (ofB b).length = 5 from rfl) hN, product_box]
  cases okL (ofB a) (ofB b)
  · rfl
  · rfl
def ahead (v : V) : V := (v.1, if v.2.2.1 = 0 then v.2.1 - 1 else v.2.1, v.2.2.1 - 1, ())
def behind (v : V) : V := (v.1, if v.2.2.1 + 1 = 0 then v.2.1 + 1 else v.2.1, v.2.2.1 + 1, ())
theorem ahead_ok (N : Nat) (v : V) : decorrelate_value_ahead N v = some ((ahead v, ()), ()) := by
  unfold decorrelate_value_ahead decorrelate_value_ahead_1 ahead
  by_cases h : v.2.2.1 = 0 <;> simp [h]
theorem behind_ok (N : Nat) (v : V) : decorrelate_value_behind N v = some ((behind v, ()), ()) := by
  unfold decorrelate_value_behind behind
  by_cases h : v.2.2.1 + 1 = 0 <;> simp [h]
/-- The ranges of which the first k are those of the meet. -/
def cK (c m : Pr) (k : Nat) : Pr := m.take k ++ c.drop k
/-- The pieces of range k. -/
def pcs (c m : Pr) (k : Nat) : List Bx :=
  (if vk (c.getD k s0).1 < vk (m.getD k s0).1 then [bxOf (c.set k ((c.getD k s0).1, ahead (m.getD k s0).1, ()))] else []) ++
  (if vk (m.getD k s0).2.1 < vk (c.getD k s0).2.1 then [bxOf (c.set k (behind (m.getD k s0).2.1, (c.getD k s0).2.1, ()))] else [])
def outK (c m : Pr) : Nat → List Bx
  | 0 => []
  | k + 1 => outK c m k ++ pcs (cK c m k) m k
theorem outK_len (c m : Pr) : ∀ k, (outK c m k).length ≤ 2 * k
  | 0 => by simp [outK]
  | k + 1 => by
    have := outK_len c m k
    have h2 : (pcs (cK c m k) m k).length ≤ 2 := by unfold pcs; split <;> split <;> simp
    simp only [outK, List.length_append]; omega
section
variable {c m : Pr} (hc : c.length = 5) (hm : m.length = 5)
include hc hm
theorem cK_len {k : Nat} (h : k ≤ 5) : (cK c m k).length = 5 := by unfold cK; simp; omega
omit hc in
theorem cK_get {k : Nat} (h : k < 5) : (cK c m k).getD k s0 = c.getD k s0 := by
  unfold cK
  rw [List.getD_eq_getElem?_getD, List.getElem?_append_right (by simp; omega), List.length_take, hm, Nat.min_eq_left (by omega), Nat.sub_self, List.getElem?_drop, Nat.add_zero, ← List.getD_eq_getElem?_getD]
theorem cK_set {k : Nat} (h : k < 5) : (cK c m k).set k (m.getD k s0) = cK c m (k + 1) := by
  unfold cK
  rw [List.set_append_right _ _ (by simp; omega), List.length_take, hm, Nat.min_eq_left (by omega), Nat.sub_self, List.drop_eq_getElem_cons (by omega), List.set_cons_zero, take_snoc m s0 (by omega), List.append_assoc]
  rfl
theorem minus_step (N : Nat) (hN : 4611686018427387904 ≤ N) {k : Nat} (h : k < 5) : decorrelate_Minus_s2 N (k : Int) (cK c m k) (outK c m k) m = some (.go ((((k + 1 : Nat) : Int), ()), (cK c m (k + 1), outK c m (k + 1), m, ()))) := by
  have hl := outK_len c m k
  have e : ((k : Nat) : Int).toNat = k := by omega
  unfold decorrelate_Minus_s2
  show _ = some (Lo.go ((((k + 1 : Nat) : Int), ()), (cK c m (k + 1), outK c m k ++ pcs (cK c m k) m k, m, ())))
  unfold pcs
  rw [← cK_set hc hm h]
  generalize cK c m k = x
  generalize outK c m k = o at *
  have hr : inR (k : Int) 5 = true := inR_of (by omega) (by omega)
  have h5 : ((k : Nat) : Int) < 5 := by omega
  simp only [hr, e, dpos h5, cond_true, compare_ok N _ _ hN, Option.bind_some, cv_neg, ahead_ok, behind_ok, product_box]
  have hw : w64 ((k : Int) + 1) = ((k + 1 : Nat) : Int) := by rw [w64_of (by omega) (by omega)]; rfl
  rw [hw]
  show (bif decide (vk (x.getD k s0).1 < vk (m.getD k s0).1) then _ else _) = _
  by_cases q1 : vk (x.getD k s0).1 < vk (m.getD k s0).1
  · rw [dpos q1, if_pos q1, cond_true, room_of (by simp; omega), cond_true]
    show (bif decide (vk (m.getD k s0).2.1 < vk (x.getD k s0).2.1) then _ else _) = _
    by_cases q2 : vk (m.getD k s0).2.1 < vk (x.getD k s0).2.1
    · rw [dpos q2, if_pos q2, cond_true, room_of (by simp; omega), cond_true, List.append_assoc, List.set_set]
      rfl
    · rw [dneg q2, if_neg q2, cond_false, List.append_nil]
      rfl
  · rw [dneg q1, if_neg q1, cond_false]
    show (bif decide (vk (m.getD k s0).2.1 < vk (x.getD k s0).2.1) then _ else _) = _
    by_cases q2 : vk (m.getD k s0).2.1 < vk (x.getD k s0).2.1
    · rw [dpos q2, if_pos q2, cond_true, room_of (by simp; omega), cond_true, List.nil_append]
      rfl
    · rw [dneg q2, if_neg q2, cond_false, List.append_nil, List.append_nil]
      rfl
end
def mns (a : Bx) (b : Bx) : List Bx := if okL (ofB a) (ofB b) = true then outK (ofB a) (mL (ofB a) (ofB b)) 5 else [a]
theorem minus_ok (N : Nat) (a b : Bx) (hN : 4611686018427387904 ≤ N) : decorrelate_Minus N a b = some ((), (mns a b, ())) := by
  unfold decorrelate_Minus mns
  rw [of_box, of_box]
  simp only [dpos, dneg, w64_of, inR_of, room_of, tmod_of, cond_true, cond_false, Bool.and_self, Bool.and_true, Bool.true_and, Bool.and_false, Bool.false_and, Bool.not_true, Bool.not_false, Option.bind_some, List.length_cons, List.length_nil, Nat.zero_add, product_meet N (show (ofB a).length = 5 from rfl) (show (ofB b).length = 5 from rfl) hN]
  cases okL (ofB a) (ofB b)
  · rfl
  · simp only [Bool.not_true, cond_false, if_true]
    unfold decorrelate_Minus_1
    refine (loopK_run (fun k : Nat => (((k : Int), ()), (cK (ofB a) (mL (ofB a) (ofB b)) k, outK (ofB a) (mL (ofB a) (ofB b)) k, mL (ofB a) (ofB b), ()))) (n := 5) ?_ (e := ((), (outK (ofB a) (mL (ofB a) (ofB b)) 5, ()))) ?_ (by omega)).trans ?_
    · intro i hi
      exact minus_step rfl rfl N hN hi
    · show decorrelate_Minus_s2 N _ _ _ _ = _
      unfold decorrelate_Minus_s2
      rfl
    · rfl
end Go.Proofs.Ytgbkkfpheahdfaa.Pl

/- Plain: boxes that are made (make.Codes.Box). -/
namespace Go.Proofs.Ytgbkkfpheahdfaa.Pl
open Go
theorem list_at {α : Type} (N : Nat) {i : Int} {n : Nat} (h0 : 0 ≤ i) (h1 : i < (n : Int)) : inR i n = true := inR_of h0 h1
theorem ports_ok (N : Nat) {c : List UInt8 × (Int × Unit)} (hc : COk c) : ∃ l c', make_Codes_Ports N c = some ((l, ()), (c', ())) ∧ COk c' ∧ ∃ a b : Int, l = [a, b] ∧ -1 ≤ a ∧ a ≤ b ∧ b ≤ 65535 := by
  unfold make_Codes_Ports make_Codes_Ports_1
  obtain ⟨v, c1, e1, v0, v1, k1⟩ := next_ok N (n := 7) hc (by omega)
  rw [e1]
  simp only [Option.bind_some]
  by_cases h0 : v = 0
  · rw [dpos h0]; exact ⟨_, _, rfl, k1, _, _, rfl, by omega, by omega, by omega⟩
  by_cases h1 : v = 1
  · rw [dneg h0, dpos h1]; exact ⟨_, _, rfl, k1, _, _, rfl, by omega, by omega, by omega⟩
  by_cases h2 : v = 2
  · rw [dneg h0, dneg h1, dpos h2]; exact ⟨_, _, rfl, k1, _, _, rfl, by omega, by omega, by omega⟩
  by_cases h3 : v = 3
  · rw [dneg h0, dneg h1, dneg h2, dpos h3]; exact ⟨_, _, rfl, k1, _, _, rfl, by omega, by omega, by omega⟩
  by_cases h4 : v = 4
  · obtain ⟨u, c2, e2, u0, u1, k2⟩ := next_ok N (n := 9) k1 (by omega)
    rw [dneg h0, dneg h1, dneg h2, dneg h3, dpos h4, e2]
    exact ⟨_, _, rfl, k2, _, _, rfl, by omega, by simp only; omega, by simp only; omega⟩
  · obtain ⟨u, c2, e2, u0, u1, k2⟩ := next_ok N (n := 4) k1 (by omega)
    obtain ⟨z, c3, e3, z0, z1, k3⟩ := next_ok N (n := 6) k2 (by omega)
    rw [dneg h0, dneg h1, dneg h2, dneg h3, dneg h4, e2]
    simp only [cond_false, Option.bind_some]
    rw [inR_of u0 (by simpa using u1), cond_true, e3]
    have hx : ∀ x : Int, x = ([(0 : Int), (80 : Int), (443 : Int), (65530 : Int)] : List Int).getD u.toNat 0 → 0 ≤ x ∧ x ≤ 65530 := by
      rintro x rfl
      have : u.toNat = 0 ∨ u.toNat = 1 ∨ u.toNat = 2 ∨ u.toNat = 3 := by omega
      rcases this with h | h | h | h <;> rw [h] <;> decide
    obtain ⟨x0, x1⟩ := hx _ rfl
    refine ⟨_, _, rfl, k3, _, _, rfl, ?_, ?_, ?_⟩ <;> (try simp only) <;> (try rw [w64_of (by omega) (by omega)]) <;> omega
/-- An address of a family, within it. -/
def AOk (f : Int) (a : Int × (UInt64 × (UInt64 × Unit))) : Prop := a.1 = f ∧ (f = 4 → a.2.1 = 0 ∧ a.2.2.1.toNat < 4294967296)
theorem address_ok (N : Nat) {c : List UInt8 × (Int × Unit)} (f : Int) (hc : COk c) : ∃ a c', make_Codes_Address N f c = some ((a, ()), (c', ())) ∧ COk c' ∧ AOk f a := by
  unfold make_Codes_Address
  by_cases hf : f = 4
  · obtain ⟨u, c2, e2, u0, u1, k2⟩ := next_ok N (n := 4) hc (by omega)
    obtain ⟨z, c3, e3, z0, z1, k3⟩ := next_ok N (n := 8) k2 (by omega)
    rw [dpos hf, e2]
    simp only [cond_true, Option.bind_some]
    rw [inR_of u0 (by simpa using u1), cond_true, e3]
    refine ⟨_, _, rfl, k3, rfl, fun _ => ⟨rfl, ?_⟩⟩
    simp only
    have hu : u.toNat = 0 ∨ u.toNat = 1 ∨ u.toNat = 2 ∨ u.toNat = 3 := by omega
    obtain ⟨q, hq, rfl⟩ : ∃ q : Nat, q < 8 ∧ z = (q : Int) := ⟨z.toNat, by omega, by omega⟩
    have hz : ∀ q : Nat, q < 8 → (iu64 (q : Int)).toNat = q := by decide
    have hadd : ∀ x : UInt64, x.toNat ≤ 4294967288 → (x + iu64 (q : Int)).toNat < 4294967296 := by
      intro x hx
      rw [UInt64.toNat_add, hz q hq]; omega
    rcases hu with h | h | h | h <;> rw [h] <;> exact hadd _ (by decide)
  · obtain ⟨u, c2, e2, u0, u1, k2⟩ := next_ok N (n := 3) hc (by omega)
    obtain ⟨z, c3, e3, z0, z1, k3⟩ := next_ok N (n := 3) k2 (by omega)
    obtain ⟨y, c4, e4, y0, y1, k4⟩ := next_ok N (n := 8) k3 (by omega)
    rw [dneg hf, e2]
    simp only [cond_false, Option.bind_some]
    rw [inR_of u0 (by simpa using u1), cond_true, e3]
    simp only [Option.bind_some]
    rw [inR_of z0 (by simpa using z1), cond_true, e4]
    exact ⟨_, _, rfl, k4, rfl, fun h => absurd h hf⟩
theorem and_le_u (x y : UInt64) : (x &&& y).toNat ≤ x.toNat := by rw [UInt64.toNat_and]; exact Nat.and_le_left
theorem le_or_u (x y : UInt64) : x.toNat ≤ (x ||| y).toNat := by rw [UInt64.toNat_or]; exact Nat.left_le_or
theorem shl1 {k : Int} (h0 : 0 ≤ k) (h1 : k < 32) : (shl64 (1 : UInt64) (iu64 k).toNat).toNat < 2 ^ 32 := by
  obtain ⟨q, rfl⟩ := Int.eq_ofNat_of_zero_le h0
  have hq : q < 32 := by omega
  clear h0 h1
  have : ∀ q : Nat, q < 32 → (shl64 (1 : UInt64) (iu64 (q : Int)).toNat).toNat < 2 ^ 32 := by decide +kernel
  exact this q hq
theorem bits_ok (N : Nat) (f : Int) (hf : f = 4 ∨ f = 6) : ref18_bits N f = some ((if f = 4 then 32 else 128, ()), ()) := by
  unfold ref18_bits
  rcases hf with rfl | rfl <;> rfl
theorem valid_ok (N : Nat) {f : Int} {a : Int × (UInt64 × (UInt64 × Unit))} (hf : f = 4 ∨ f = 6) (ha : AOk f a) : ref05_Valid N a = some ((true, ()), ()) := by
  unfold ref05_Valid
  obtain ⟨h1, h2⟩ := ha
  rw [h1]
  rcases hf with rfl | rfl
  · obtain ⟨h3, h4⟩ := h2 rfl
    have : a.2.2.1 < (4294967296 : UInt64) := by rw [UInt64.lt_iff_toNat_lt]; exact h4
    rw [dpos rfl, dpos h3, dpos this]; rfl
  · rfl
/-- A range of addresses of a family. -/
def SOk (f : Int) (lo hi : Int × (UInt64 × (UInt64 × Unit))) : Prop := AOk f lo ∧ AOk f hi ∧ lo.2.1.toNat ≤ hi.2.1.toNat ∧ (lo.2.1.toNat = hi.2.1.toNat → lo.2.2.1.toNat ≤ hi.2.2.1.toNat)
theorem prefix_ok (N : Nat) {f : Int} {a : Int × (UInt64 × (UInt64 × Unit))} {n : Int} (hf : f = 4 ∨ f = 6) (ha : AOk f a) (h0 : 0 ≤ n) (h1 : n ≤ 32) (hN : 4611686018427387904 ≤ N) : ∃ lo hi e, ref18_Prefix N a n = some ((lo, hi, e, ()), ()) ∧ SOk f lo hi := by
  unfold ref18_Prefix ref18_Prefix_1
  have hb : n ≤ (if f = 4 then 32 else 128 : Int) := by split <;> omega
  have hb2 : (if f = 4 then 32 else 128 : Int) ≤ 128 := by split <;> omega
  have hb3 : f = 4 → (if f = 4 then 32 else 128 : Int) = 32 := fun h => if_pos h
  have hbits := bits_ok N f hf
  generalize (if f = 4 then 32 else 128 : Int) = B at *
  rw [valid_ok N hf ha, ha.1, hbits]
  simp (disch := omega) only [dpos, dneg, w64_of, inR_of, room_of, tmod_of, cond_true, cond_false, Bool.and_self, Bool.and_true, Bool.true_and, Bool.and_false, Bool.false_and, Bool.not_true, Bool.not_false, Option.bind_some, List.length_cons, List.length_nil, Nat.zero_add]
  unfold ref18_Prefix_2
  have := loopK_of (N := N) (step := fun y => ref18_Prefix_s3 N y.1.1 y.2.1 y.2.2.1 y.2.2.2.1 y.2.2.2.2.1 y.2.2.2.2.2.1) (J := fun (e : ((Unit) × ((Int × (UInt64 × (UInt64 × Unit))) × (Int × (UInt64 × (UInt64 × Unit))) × (Int × (UInt64 × (UInt64 × Unit))) × (Int × (UInt64 × (UInt64 × Unit))) × Unit))) => ref18_Prefix_4 N e.2.1 e.2.2.1 e.2.2.2.1 e.2.2.2.2.1)
    (I := fun y => 0 ≤ y.1.1 ∧ y.1.1 ≤ B ∧ y.2.1 = a ∧ AOk f y.2.2.2.2.1 ∧ AOk f y.2.2.2.2.2.1 ∧ y.2.2.2.2.1.2.1.toNat ≤ y.2.2.2.2.2.1.2.1.toNat ∧ y.2.2.2.2.1.2.2.1.toNat ≤ y.2.2.2.2.2.1.2.2.1.toNat) (μ := fun y => (B - y.1.1).toNat) (T := fun r => ∃ lo hi e, r = ((lo, hi, e, ()), ()) ∧ SOk f lo hi) ?_
    (x := ((n, ()), (a, (0, 0, 0, ()), (0, 0, 0, ()), a, a, ()))) ⟨h0, hb, rfl, ha, ha, Nat.le_refl _, Nat.le_refl _⟩ (by simp only; omega)
  · obtain ⟨r, h1, lo, hi, e, rfl, h2⟩ := this
    exact ⟨lo, hi, e, h1, h2⟩
  · rintro ⟨⟨i, _⟩, a', t4, t5, lo, hi, _⟩ ⟨i0, i1, rfl, hl, hh, q1, q2⟩
    simp only at i0 i1 hl hh q1 q2
    show ∃ o, ref18_Prefix_s3 N i a' t4 t5 lo hi = some o ∧ _
    unfold ref18_Prefix_s3
    rw [ha.1, hbits]
    by_cases hi' : i < B
    · simp (disch := omega) only [dpos, dneg, w64_of, inR_of, room_of, tmod_of, cond_true, cond_false, Bool.and_self, Bool.and_true, Bool.true_and, Bool.and_false, Bool.false_and, Bool.not_true, Bool.not_false, Option.bind_some, List.length_cons, List.length_nil, Nat.zero_add]
      by_cases h64 : 64 ≤ B - 1 - i
      · rw [dpos h64]
        refine ⟨_, rfl, ⟨by simp only; omega, by simp only; omega, rfl, ⟨hl.1, fun h => ?_⟩, ⟨hh.1, fun h => ?_⟩, ?_, q2⟩, by simp only; omega⟩
        · have := hb3 h; omega
        · have := hb3 h; omega
        · exact Nat.le_trans (and_le_u _ _) (Nat.le_trans q1 (le_or_u _ _))
      · rw [dneg h64]
        refine ⟨_, rfl, ⟨by simp only; omega, by simp only; omega, rfl, ⟨hl.1, fun h => ?_⟩, ⟨hh.1, fun h => ?_⟩, q1, ?_⟩, by simp only; omega⟩
        · exact ⟨(hl.2 h).1, Nat.lt_of_le_of_lt (and_le_u _ _) (hl.2 h).2⟩
        · refine ⟨(hh.2 h).1, ?_⟩
          have hB := hb3 h
          simp only [UInt64.toNat_or]
          have hs : (shl64 (1 : UInt64) (iu64 (w64 (B - 1 - i))).toNat).toNat < 2 ^ 32 := by rw [w64_of (by omega) (by omega)]; exact shl1 (by omega) (by omega)
          rw [w64_of (by omega) (by omega)] at hs
          exact Nat.or_lt_two_pow (n := 32) (hh.2 h).2 hs
        · exact Nat.le_trans (and_le_u _ _) (Nat.le_trans q2 (le_or_u _ _))
    · rw [Option.bind_some, dneg hi']
      exact ⟨_, rfl, _, rfl, lo, hi, 0, rfl, hl, hh, q1, fun _ => q2⟩
theorem span_ok (N : Nat) {c : List UInt8 × (Int × Unit)} {f : Int} (hf : f = 4 ∨ f = 6) (hc : COk c) (hN : 4611686018427387904 ≤ N) : ∃ lo hi c', make_Codes_Span N f c = some ((lo, hi, ()), (c', ())) ∧ COk c' ∧ SOk f lo hi := by
  unfold make_Codes_Span make_Codes_Span_1
  obtain ⟨v, c1, e1, v0, v1, k1⟩ := next_ok N (n := 5) hc (by omega)
  rw [e1]
  simp only [Option.bind_some]
  by_cases h0 : v = 0
  · rw [dpos h0]
    unfold ref18_All
    obtain ⟨lo, hi, e, hp, hs⟩ := prefix_ok N (a := (f, 0, 0, ())) (n := 0) hf ⟨rfl, fun _ => ⟨rfl, by show (0 : UInt64).toNat < _; decide⟩⟩ (by omega) (by omega) hN
    rw [hp]
    exact ⟨_, _, _, rfl, k1, hs⟩
  by_cases h1 : v = 1
  · rw [dneg h0, dpos h1]
    obtain ⟨a, c2, e2, k2, ha⟩ := address_ok N f k1
    obtain ⟨u, c3, e3, u0, u1, k3⟩ := next_ok N (n := 25) k2 (by omega)
    obtain ⟨lo, hi, e, hp, hs⟩ := prefix_ok N (a := a) (n := 8 + u) hf ha (by omega) (by omega) hN
    simp (disch := omega) only [dpos, dneg, w64_of, inR_of, room_of, tmod_of, cond_true, cond_false, Bool.and_self, Bool.and_true, Bool.true_and, Bool.and_false, Bool.false_and, Bool.not_true, Bool.not_false, Option.bind_some, List.length_cons, List.length_nil, Nat.zero_add, e2, e3, hp]
    exact ⟨_, _, _, rfl, k3, hs⟩
  · rw [dneg h0, dneg h1]
    obtain ⟨a, c2, e2, k2, ha⟩ := address_ok N f k1
    obtain ⟨b, c3, e3, k3, hb⟩ := address_ok N f k2
    simp only [dpos, dneg, w64_of, inR_of, room_of, tmod_of, cond_true, cond_false, Bool.and_self, Bool.and_true, Bool.true_and, Bool.and_false, Bool.false_and, Bool.not_true, Bool.not_false, Option.bind_some, List.length_cons, List.length_nil, Nat.zero_add, e2, e3]
    by_cases q1 : b.2.1 < a.2.1
    · rw [dpos q1]
      rw [UInt64.lt_iff_toNat_lt] at q1
      exact ⟨_, _, _, rfl, k3, hb, ha, by omega, by omega⟩
    · rw [dneg q1]
      rw [UInt64.lt_iff_toNat_lt] at q1
      by_cases q2 : a.2.1 = b.2.1
      · rw [dpos q2]
        by_cases q3 : b.2.2.1 < a.2.2.1
        · rw [dpos q3]
          rw [UInt64.lt_iff_toNat_lt] at q3
          exact ⟨_, _, _, rfl, k3, hb, ha, by rw [q2]; omega, by omega⟩
        · rw [dneg q3]
          rw [UInt64.lt_iff_toNat_lt] at q3
          exact ⟨_, _, _, rfl, k3, ha, hb, by rw [q2]; omega, by omega⟩
      · rw [dneg q2]
        rw [← UInt64.toNat_inj] at q2
        exact ⟨_, _, _, rfl, k3, ha, hb, by omega, by omega⟩
/-- A box that is right. -/
structure BOk (b : (Int × (UInt64 × (UInt64 × Unit))) × ((Int × (UInt64 × (UInt64 × Unit))) × ((Int × (UInt64 × (UInt64 × Unit))) × ((Int × (UInt64 × (UInt64 × Unit))) × (Int × (Int × (List Int × (List Int × Unit)))))))) : Prop where
  fam : ∃ f, (f = 4 ∨ f = 6) ∧ SOk f b.1 b.2.1 ∧ SOk f b.2.2.1 b.2.2.2.1
  proto : 0 ≤ b.2.2.2.2.1 ∧ b.2.2.2.2.1 ≤ b.2.2.2.2.2.1 ∧ b.2.2.2.2.2.1 ≤ 255
  lport : ∃ x y : Int, b.2.2.2.2.2.2.1 = [x, y] ∧ -1 ≤ x ∧ x ≤ y ∧ y ≤ 65535
  rport : ∃ x y : Int, b.2.2.2.2.2.2.2.1 = [x, y] ∧ -1 ≤ x ∧ x ≤ y ∧ y ≤ 65535
theorem box_ok (N : Nat) {c : List UInt8 × (Int × Unit)} (hc : COk c) (hN : 4611686018427387904 ≤ N) : ∃ b c', make_Codes_Box N c = some ((b, ()), (c', ())) ∧ COk c' ∧ BOk b := by
  unfold make_Codes_Box
  obtain ⟨v, c1, e1, v0, v1, k1⟩ := next_ok N (n := 4) hc (by omega)
  rw [e1]
  have key : ∀ f : Int, (f = 4 ∨ f = 6) → ∃ b c', make_Codes_Box_1 N f c1 ((0, 0, 0, ()), (0, 0, 0, ()), (0, 0, 0, ()), (0, 0, 0, ()), 0, 0, List.replicate 2 0, List.replicate 2 0, ()) = some ((b, ()), (c', ())) ∧ COk c' ∧ BOk b := by
    intro f hf
    unfold make_Codes_Box_1
    obtain ⟨l1, h1, c2, e2, k2, s1⟩ := span_ok N hf k1 hN
    obtain ⟨l2, h2, c3, e3, k3, s2⟩ := span_ok N hf k2 hN
    obtain ⟨u, c4, e4, u0, u1, k4⟩ := next_ok N (n := 5) k3 (by omega)
    rw [e2, Option.bind_some, e3, Option.bind_some, e4, Option.bind_some]
    have fin : ∀ {c5 : List UInt8 × (Int × Unit)} (_ : COk c5) (x y : Int) (_ : 0 ≤ x) (_ : x ≤ y) (_ : y ≤ 255) t, ∃ b c', make_Codes_Box_2 N c5 t (l1, h1, l2, h2, x, y, List.replicate 2 0, List.replicate 2 0, ()) = some ((b, ()), (c', ())) ∧ COk c' ∧ BOk b := by
      intro c5 k5 x y x0 xy y1 t
      unfold make_Codes_Box_2
      obtain ⟨la, c6, e6, k6, p1⟩ := ports_ok N k5
      obtain ⟨lb, c7, e7, k7, p2⟩ := ports_ok N k6
      rw [e6, Option.bind_some, e7]
      exact ⟨_, _, rfl, k7, ⟨f, hf, s1, s2⟩, ⟨x0, xy, y1⟩, p1, p2⟩
    simp only
    by_cases q0 : u = 0
    · rw [dpos q0, cond_true]; exact fin k4 _ _ (by omega) (by omega) (by omega) _
    by_cases q1 : u = 1
    · rw [dneg q0, dpos q1, cond_false, cond_true]; exact fin k4 _ _ (by omega) (by omega) (by omega) _
    by_cases q2 : u = 2
    · obtain ⟨z, c5, e5, z0, z1, k5⟩ := next_ok N (n := 5) k4 (by omega)
      rw [dneg q0, dneg q1, dpos q2, e5]
      simp only [cond_true, cond_false, Option.bind_some]
      rw [inR_of z0 (by simpa using z1), cond_true]
      have hx : ∀ x : Int, x = ([(0 : Int), (1 : Int), (6 : Int), (17 : Int), (58 : Int)] : List Int).getD z.toNat 0 → 0 ≤ x ∧ x ≤ 58 := by
        rintro x rfl
        have : z.toNat = 0 ∨ z.toNat = 1 ∨ z.toNat = 2 ∨ z.toNat = 3 ∨ z.toNat = 4 := by omega
        rcases this with h | h | h | h | h <;> rw [h] <;> decide
      obtain ⟨x0, x1⟩ := hx _ rfl
      exact fin k5 _ _ x0 (Int.le_refl _) (by omega) _
    · obtain ⟨z, c5, e5, z0, z1, k5⟩ := next_ok N (n := 7) k4 (by omega)
      obtain ⟨y, c6, e6, y0, y1, k6⟩ := next_ok N (n := 12) k5 (by omega)
      rw [dneg q0, dneg q1, dneg q2, e5]
      simp only [cond_false, Option.bind_some, e6]
      rw [w64_of (by omega) (by omega)]
      exact fin k6 _ _ z0 (by omega) (by omega) _
  simp only [Option.bind_some]
  by_cases h : w64 (4 + w64 ((w64 (2 * v)).tdiv 3)) = 4
  · rw [dpos h, h]; exact key 4 (.inl rfl)
  · rw [dneg h]; exact key 6 (.inr rfl)
end Go.Proofs.Ytgbkkfpheahdfaa.Pl

/- Plain: boxes as five ranges of numbers, the points in them, and what is left of one box without another. -/
namespace Go.Proofs.Ytgbkkfpheahdfaa.Pl
open Go
/-! Geometry: boxes as five ranges of numbers, and the points in them. -/
/-- Where the values of range k begin, and their last one, for a family. -/
def bg (f : Int) (k : Nat) : Int := if k < 2 then f * 340282366920938463463374607431768211456 else if k = 2 then 1 else 0
def nd (f : Int) (k : Nat) : Int := if k < 2 then (if f = 4 then f * 340282366920938463463374607431768211456 + 4294967295 else f * 340282366920938463463374607431768211456 + 340282366920938463463374607431768211455) else if k = 2 then 256 else 65536
/-- A range that is right: of its kind, and not empty. -/
def NS (f : Int) (k : Nat) (s : Sd) : Prop := bg f k ≤ vk s.1 ∧ vk s.1 ≤ vk s.2.1 ∧ vk s.2.1 ≤ nd f k
structure NP (f : Int) (p : Pr) : Prop where
  len : p.length = 5
  rng : ∀ k, k < 5 → NS f k (p.getD k s0)
def inS (s : Sd) (v : Int) : Bool := decide (vk s.1 ≤ v) && decide (v ≤ vk s.2.1)
def hasP (p : Pr) (x : Nat → Int) : Bool := inS (p.getD 0 s0) (x 0) && (inS (p.getD 1 s0) (x 1) && (inS (p.getD 2 s0) (x 2) && (inS (p.getD 3 s0) (x 3) && inS (p.getD 4 s0) (x 4))))
theorem inS_iff (s : Sd) (v : Int) : inS s v = true ↔ vk s.1 ≤ v ∧ v ≤ vk s.2.1 := by simp [inS]
theorem k5 {k : Nat} (h : k < 5) : k = 0 ∨ k = 1 ∨ k = 2 ∨ k = 3 ∨ k = 4 := by omega
theorem hasP_iff (p : Pr) (x : Nat → Int) : hasP p x = true ↔ ∀ k, k < 5 → vk (p.getD k s0).1 ≤ x k ∧ x k ≤ vk (p.getD k s0).2.1 := by
  unfold hasP
  simp only [Bool.and_eq_true, inS_iff]
  constructor
  · rintro ⟨h0, h1, h2, h3, h4⟩ k hk
    rcases k5 hk with rfl | rfl | rfl | rfl | rfl <;> assumption
  · intro h; exact ⟨h 0 (by omega), h 1 (by omega), h 2 (by omega), h 3 (by omega), h 4 (by omega)⟩
/-- The number of boxes that have a point. -/
def cnt (l : List Pr) (x : Nat → Int) : Nat := l.countP fun p => hasP p x
theorem cnt_app (l m : List Pr) (x : Nat → Int) : cnt (l ++ m) x = cnt l x + cnt m x := List.countP_append
theorem cnt_one (p : Pr) (x : Nat → Int) : cnt [p] x = (hasP p x).toNat := by unfold cnt; simp [List.countP_cons]; cases hasP p x <;> rfl
theorem cnt_nil (x : Nat → Int) : cnt [] x = 0 := rfl
theorem vk_ahead {v : V} {f : Int} (h : f * 340282366920938463463374607431768211456 < vk v) (h' : vk v ≤ f * 340282366920938463463374607431768211456 + 340282366920938463463374607431768211455) : vk (ahead v) = vk v - 1 := by
  obtain ⟨a, hi, lo, _⟩ := v
  unfold vk at *
  unfold ahead
  simp only at *
  have := hi.toNat_lt; have := lo.toNat_lt
  have e : lo = 0 ↔ lo.toNat = 0 := by rw [← UInt64.toNat_inj]; rfl
  by_cases hl : lo = 0
  · rw [if_pos hl]
    have h0 := e.1 hl
    rw [h0] at h h'
    rw [UInt64.toNat_sub, UInt64.toNat_sub, h0]
    simp only [UInt64.toNat_one]
    omega
  · rw [if_neg hl]
    have h0 : lo.toNat ≠ 0 := fun q => hl (e.2 q)
    rw [UInt64.toNat_sub]
    simp only [UInt64.toNat_one]
    omega
theorem vk_behind {v : V} {f : Int} (h : f * 340282366920938463463374607431768211456 ≤ vk v) (h' : vk v < f * 340282366920938463463374607431768211456 + 340282366920938463463374607431768211455) : vk (behind v) = vk v + 1 := by
  obtain ⟨a, hi, lo, _⟩ := v
  unfold vk at *
  unfold behind
  simp only at *
  have := hi.toNat_lt; have := lo.toNat_lt
  have e : lo + 1 = 0 ↔ lo.toNat = 18446744073709551615 := by
    rw [← UInt64.toNat_inj, UInt64.toNat_add]; simp only [UInt64.toNat_one, UInt64.toNat_zero]; omega
  by_cases hl : lo + 1 = 0
  · rw [if_pos hl]
    have h0 := e.1 hl
    rw [hl, UInt64.toNat_add]
    simp only [UInt64.toNat_one, UInt64.toNat_zero]
    omega
  · rw [if_neg hl]
    have h0 : lo.toNat ≠ 18446744073709551615 := fun q => hl (e.2 q)
    rw [UInt64.toNat_add]
    simp only [UInt64.toNat_one]
    omega
/-- The family digit of the values of range k. -/
def dg (f : Int) (k : Nat) : Int := if k < 2 then f else 0
theorem bg_dg {f : Int} {k : Nat} (hk : k < 5) : dg f k * 340282366920938463463374607431768211456 ≤ bg f k ∧ nd f k ≤ dg f k * 340282366920938463463374607431768211456 + 340282366920938463463374607431768211455 := by
  unfold bg nd dg
  rcases k5 hk with rfl | rfl | rfl | rfl | rfl <;> simp <;> (try split) <;> omega
theorem ahead_of {f : Int} {k : Nat} (hk : k < 5) {v : V} (h : bg f k < vk v) (h' : vk v ≤ nd f k) : vk (ahead v) = vk v - 1 := by
  have := bg_dg (f := f) hk
  exact vk_ahead (f := dg f k) (by omega) (by omega)
theorem behind_of {f : Int} {k : Nat} (hk : k < 5) {v : V} (h : bg f k ≤ vk v) (h' : vk v < nd f k) : vk (behind v) = vk v + 1 := by
  have := bg_dg (f := f) hk
  exact vk_behind (f := dg f k) (by omega) (by omega)
/-- The pieces as ranges. -/
def pcP (c m : Pr) (k : Nat) : List Pr :=
  (if vk (c.getD k s0).1 < vk (m.getD k s0).1 then [c.set k ((c.getD k s0).1, ahead (m.getD k s0).1, ())] else []) ++
  (if vk (m.getD k s0).2.1 < vk (c.getD k s0).2.1 then [c.set k (behind (m.getD k s0).2.1, (c.getD k s0).2.1, ())] else [])
def outP (c m : Pr) : Nat → List Pr
  | 0 => []
  | k + 1 => outP c m k ++ pcP (cK c m k) m k
theorem pcs_map (c m : Pr) (k : Nat) : pcs c m k = (pcP c m k).map bxOf := by
  unfold pcs pcP
  rw [List.map_append]
  congr 1 <;> split <;> rfl
theorem outK_map (c m : Pr) : ∀ k, outK c m k = (outP c m k).map bxOf
  | 0 => rfl
  | k + 1 => by simp only [outK, outP, List.map_append, outK_map c m k, pcs_map]
theorem set_get {c : Pr} (hc : c.length = 5) {k j : Nat} (hk : k < 5) (hj : j < 5) (s : Sd) : (c.set k s).getD j s0 = if j = k then s else c.getD j s0 := by
  rw [List.getD_eq_getElem?_getD, List.getElem?_set]
  by_cases h : k = j
  · subst h; rw [if_pos rfl, if_pos (by omega), if_pos rfl]; rfl
  · rw [if_neg h, if_neg (fun e => h e.symm)]; rfl
/-- All ranges but one have the point. -/
def rest (p : Pr) (k : Nat) (x : Nat → Int) : Bool := (decide (0 = k) || inS (p.getD 0 s0) (x 0)) && ((decide (1 = k) || inS (p.getD 1 s0) (x 1)) && ((decide (2 = k) || inS (p.getD 2 s0) (x 2)) && ((decide (3 = k) || inS (p.getD 3 s0) (x 3)) && (decide (4 = k) || inS (p.getD 4 s0) (x 4)))))
theorem rest_iff (p : Pr) (k : Nat) (x : Nat → Int) : rest p k x = true ↔ ∀ j, j < 5 → j ≠ k → vk (p.getD j s0).1 ≤ x j ∧ x j ≤ vk (p.getD j s0).2.1 := by
  unfold rest
  simp only [Bool.and_eq_true, Bool.or_eq_true, decide_eq_true_eq, inS_iff]
  constructor
  · rintro ⟨h0, h1, h2, h3, h4⟩ j hj hjk
    rcases k5 hj with rfl | rfl | rfl | rfl | rfl
    · exact h0.resolve_left hjk
    · exact h1.resolve_left hjk
    · exact h2.resolve_left hjk
    · exact h3.resolve_left hjk
    · exact h4.resolve_left hjk
  · intro h
    have g : ∀ j, j < 5 → j = k ∨ (vk (p.getD j s0).1 ≤ x j ∧ x j ≤ vk (p.getD j s0).2.1) := fun j hj => if e : j = k then .inl e else .inr (h j hj e)
    exact ⟨g 0 (by omega), g 1 (by omega), g 2 (by omega), g 3 (by omega), g 4 (by omega)⟩
theorem hasP_rest (p : Pr) {k : Nat} (hk : k < 5) (x : Nat → Int) : hasP p x = (rest p k x && inS (p.getD k s0) (x k)) := by
  rw [Bool.eq_iff_iff, Bool.and_eq_true, hasP_iff, inS_iff, rest_iff]
  constructor
  · intro h; exact ⟨fun j hj _ => h j hj, h k hk⟩
  · rintro ⟨h, h'⟩ j hj
    by_cases e : j = k
    · subst e; exact h'
    · exact h j hj e
theorem rest_set {c : Pr} (hc : c.length = 5) {k : Nat} (hk : k < 5) (s : Sd) (x : Nat → Int) : rest (c.set k s) k x = rest c k x := by
  rw [Bool.eq_iff_iff, rest_iff, rest_iff]
  constructor
  · intro h j hj hjk
    have := h j hj hjk
    rw [set_get hc hk hj, if_neg hjk] at this; exact this
  · intro h j hj hjk
    rw [set_get hc hk hj, if_neg hjk]; exact h j hj hjk
theorem hasP_set {c : Pr} (hc : c.length = 5) {k : Nat} (hk : k < 5) (s : Sd) (x : Nat → Int) : hasP (c.set k s) x = (rest c k x && inS s (x k)) := by
  rw [hasP_rest _ hk, rest_set hc hk, set_get hc hk hk, if_pos rfl]
/-- A range of a part of a box. -/
def Sub (s t : Sd) : Prop := vk s.1 ≤ vk t.1 ∧ vk t.1 ≤ vk t.2.1 ∧ vk t.2.1 ≤ vk s.2.1
theorem pcP_cnt {f : Int} {c m : Pr} (hc : c.length = 5) {k : Nat} (hk : k < 5) (hn : NS f k (c.getD k s0)) (hs : Sub (c.getD k s0) (m.getD k s0)) (x : Nat → Int) :
    cnt (pcP c m k) x + (hasP (c.set k (m.getD k s0)) x).toNat = (hasP c x).toNat := by
  obtain ⟨n1, n2, n3⟩ := hn
  obtain ⟨q1, q2, q3⟩ := hs
  unfold pcP
  rw [cnt_app, hasP_set hc hk, hasP_rest c hk]
  have e1 : cnt (if vk (c.getD k s0).1 < vk (m.getD k s0).1 then [c.set k ((c.getD k s0).1, ahead (m.getD k s0).1, ())] else []) x = (rest c k x && (decide (vk (c.getD k s0).1 ≤ x k) && decide (x k < vk (m.getD k s0).1))).toNat := by
    split
    · rename_i h
      rw [cnt_one, hasP_set hc hk]
      unfold inS
      simp only
      rw [ahead_of (f := f) hk (by omega) (by omega)]
      congr 3
      apply decide_eq_decide.2; omega
    · rename_i h
      rw [cnt_nil]
      have : (decide (vk (c.getD k s0).1 ≤ x k) && decide (x k < vk (m.getD k s0).1)) = false := by simp only [Bool.and_eq_false_imp, decide_eq_true_eq, decide_eq_false_iff_not]; omega
      rw [this, Bool.and_false]; rfl
  have e2 : cnt (if vk (m.getD k s0).2.1 < vk (c.getD k s0).2.1 then [c.set k (behind (m.getD k s0).2.1, (c.getD k s0).2.1, ())] else []) x = (rest c k x && (decide (vk (m.getD k s0).2.1 < x k) && decide (x k ≤ vk (c.getD k s0).2.1))).toNat := by
    split
    · rename_i h
      rw [cnt_one, hasP_set hc hk]
      unfold inS
      simp only
      rw [behind_of (f := f) hk (by omega) (by omega)]
      congr 3
    · rename_i h
      rw [cnt_nil]
      have : (decide (vk (m.getD k s0).2.1 < x k) && decide (x k ≤ vk (c.getD k s0).2.1)) = false := by simp only [Bool.and_eq_false_imp, decide_eq_true_eq, decide_eq_false_iff_not]; omega
      rw [this, Bool.and_false]; rfl
  rw [e1, e2]
  unfold inS
  generalize x k = y at *
  generalize vk (c.getD k s0).1 = a at *
  generalize vk (c.getD k s0).2.1 = b at *
  generalize vk (m.getD k s0).1 = u at *
  generalize vk (m.getD k s0).2.1 = v at *
  cases rest c k x
  · rfl
  · simp only [Bool.true_and]
    have key : ∀ p q r s : Bool, p.toNat + q.toNat + r.toNat = s.toNat ↔ (p.toNat + q.toNat + r.toNat = s.toNat) := fun _ _ _ _ => Iff.rfl
    by_cases h1 : a ≤ y <;> by_cases h2 : y < u <;> by_cases h3 : v < y <;> by_cases h4 : y ≤ b <;> by_cases h5 : u ≤ y <;> by_cases h6 : y ≤ v <;> simp [h1, h2, h3, h4, h5, h6] <;> omega
theorem cK_len' {c m : Pr} (hc : c.length = 5) (hm : m.length = 5) {k : Nat} (h : k ≤ 5) : (cK c m k).length = 5 := by unfold cK; simp; omega
theorem cK_getge {c m : Pr} (hm : m.length = 5) {k j : Nat} (hk : k ≤ j) (h : j < 5) : (cK c m k).getD j s0 = c.getD j s0 := by
  unfold cK
  rw [List.getD_eq_getElem?_getD, List.getElem?_append_right (by simp; omega), List.length_take, hm, Nat.min_eq_left (by omega), List.getElem?_drop, ← List.getD_eq_getElem?_getD]
  congr 1; omega
theorem cK_getlt {c m : Pr} (hm : m.length = 5) {k j : Nat} (hk : j < k) (h : k ≤ 5) : (cK c m k).getD j s0 = m.getD j s0 := by
  unfold cK
  rw [List.getD_eq_getElem?_getD, List.getElem?_append_left (by simp; omega), List.getElem?_take, if_pos hk, ← List.getD_eq_getElem?_getD]
theorem ext5 {p q : Pr} (hp : p.length = 5) (hq : q.length = 5) (h : ∀ k, k < 5 → p.getD k s0 = q.getD k s0) : p = q := by
  apply List.ext_getElem (by omega)
  intro i h1 h2
  have := h i (by omega)
  simpa [List.getD_eq_getElem?_getD, List.getElem?_eq_getElem h1, List.getElem?_eq_getElem h2] using this
theorem cK_set' {c m : Pr} (hc : c.length = 5) (hm : m.length = 5) {k : Nat} (h : k < 5) : (cK c m k).set k (m.getD k s0) = cK c m (k + 1) := by
  apply ext5 (by rw [List.length_set]; exact cK_len' hc hm (by omega)) (cK_len' hc hm (by omega))
  intro j hj
  rw [set_get (cK_len' hc hm (by omega)) h hj]
  split
  · rename_i e; subst e; rw [cK_getlt hm (by omega) (by omega)]
  · rename_i e
    by_cases hlt : j < k
    · rw [cK_getlt hm hlt (by omega), cK_getlt hm (by omega) (by omega)]
    · rw [cK_getge hm (by omega) hj, cK_getge hm (by omega) hj]
theorem cK_0 (c m : Pr) : cK c m 0 = c := rfl
theorem cK_5 {c m : Pr} (hc : c.length = 5) (hm : m.length = 5) : cK c m 5 = m := by
  apply ext5 (cK_len' hc hm (by omega)) hm
  intro j hj; rw [cK_getlt hm hj (by omega)]
section
variable {f : Int} {c m : Pr} (hc : NP f c) (hm : m.length = 5) (hs : ∀ k, k < 5 → Sub (c.getD k s0) (m.getD k s0))
include hc hm hs
theorem outP_cnt (x : Nat → Int) : ∀ k, k ≤ 5 → cnt (outP c m k) x + (hasP (cK c m k) x).toNat = (hasP c x).toNat
  | 0, _ => by simp [outP, cnt_nil, cK_0]
  | k + 1, h => by
    have ih := outP_cnt x k (by omega)
    have hp := pcP_cnt (f := f) (c := cK c m k) (m := m) (cK_len' hc.len hm (by omega)) (k := k) (by omega) (by rw [cK_getge hm (Nat.le_refl k) (by omega)]; exact hc.rng k (by omega)) (by rw [cK_getge hm (Nat.le_refl k) (by omega)]; exact hs k (by omega)) x
    rw [cK_set' hc.len hm (by omega)] at hp
    simp only [outP, cnt_app]
    omega
omit hs in
theorem cK_np (hmn : NP f m) {k : Nat} (h : k ≤ 5) : NP f (cK c m k) := by
  refine ⟨cK_len' hc.len hm h, fun j hj => ?_⟩
  by_cases hlt : j < k
  · rw [cK_getlt hm hlt h]; exact hmn.rng j hj
  · rw [cK_getge hm (by omega) hj]; exact hc.rng j hj
theorem sub_np : NP f m := ⟨hm, fun k hk => by
  obtain ⟨a, b, d⟩ := hc.rng k hk
  obtain ⟨q1, q2, q3⟩ := hs k hk
  exact ⟨by omega, q2, by omega⟩⟩
end
theorem np_set {f : Int} {c : Pr} (hc : NP f c) {k : Nat} (hk : k < 5) {s : Sd} (h : NS f k s) : NP f (c.set k s) :=
  ⟨by rw [List.length_set]; exact hc.len, fun j hj => by
    rw [set_get hc.len hk hj]; split
    · rename_i e; subst e; exact h
    · exact hc.rng j hj⟩
theorem pcP_np {f : Int} {c m : Pr} (hc : NP f c) {k : Nat} (hk : k < 5) (hs : Sub (c.getD k s0) (m.getD k s0)) : ∀ p ∈ pcP c m k, NP f p := by
  intro p hp
  obtain ⟨n1, n2, n3⟩ := hc.rng k hk
  obtain ⟨q1, q2, q3⟩ := hs
  unfold pcP at hp
  rcases List.mem_append.1 hp with hp | hp
  · split at hp
    · rename_i h
      obtain rfl := List.mem_singleton.1 hp
      refine np_set hc hk ⟨n1, ?_, ?_⟩ <;> simp only <;> rw [ahead_of (f := f) hk (by omega) (by omega)] <;> omega
    · simp at hp
  · split at hp
    · rename_i h
      obtain rfl := List.mem_singleton.1 hp
      refine np_set hc hk ⟨?_, ?_, n3⟩ <;> simp only <;> rw [behind_of (f := f) hk (by omega) (by omega)] <;> omega
    · simp at hp
theorem outP_np {f : Int} {c m : Pr} (hc : NP f c) (hm : m.length = 5) (hs : ∀ k, k < 5 → Sub (c.getD k s0) (m.getD k s0)) : ∀ k, k ≤ 5 → ∀ p ∈ outP c m k, NP f p
  | 0, _ => by simp [outP]
  | k + 1, h => by
    intro p hp
    simp only [outP] at hp
    rcases List.mem_append.1 hp with hp | hp
    · exact outP_np hc hm hs k (by omega) p hp
    · exact pcP_np (cK_np hc hm (sub_np hc hm hs) (by omega)) (by omega) (by rw [cK_getge hm (Nat.le_refl k) (by omega)]; exact hs k (by omega)) p hp
/-- What is left of a box: ranges. -/
def mnP (a b : Pr) : List Pr := if okL a b = true then outP a (mL a b) 5 else [a]
theorem okL_iff (p q : Pr) : okL p q = true ↔ ∀ k, k < 5 → sok (sm (p.getD k s0) (q.getD k s0)) = true := by
  unfold okL
  simp only [Bool.and_eq_true]
  constructor
  · rintro ⟨h0, h1, h2, h3, h4⟩ k hk
    rcases k5 hk with rfl | rfl | rfl | rfl | rfl <;> assumption
  · intro h; exact ⟨h 0 (by omega), h 1 (by omega), h 2 (by omega), h 3 (by omega), h 4 (by omega)⟩
theorem mL_get (p q : Pr) {k : Nat} (hk : k < 5) : (mL p q).getD k s0 = sm (p.getD k s0) (q.getD k s0) := by
  rcases k5 hk with rfl | rfl | rfl | rfl | rfl <;> rfl
theorem mL_len (p q : Pr) : (mL p q).length = 5 := rfl
theorem sm_has (s t : Sd) (v : Int) : inS (sm s t) v = (inS s v && inS t v) := by
  rw [Bool.eq_iff_iff, Bool.and_eq_true, inS_iff, inS_iff, inS_iff]
  unfold sm; simp only
  split <;> split <;> omega
theorem mL_has (p q : Pr) (x : Nat → Int) : hasP (mL p q) x = (hasP p x && hasP q x) := by
  rw [Bool.eq_iff_iff, Bool.and_eq_true, hasP_iff, hasP_iff, hasP_iff]
  constructor
  · intro h
    refine ⟨fun k hk => ?_, fun k hk => ?_⟩ <;>
    · have := h k hk
      rw [mL_get p q hk, ← inS_iff, sm_has, Bool.and_eq_true, inS_iff, inS_iff] at this
      first | exact this.1 | exact this.2
  · rintro ⟨h1, h2⟩ k hk
    rw [mL_get p q hk, ← inS_iff, sm_has, Bool.and_eq_true, inS_iff, inS_iff]
    exact ⟨h1 k hk, h2 k hk⟩
theorem mL_sub {p q : Pr} (h : okL p q = true) {k : Nat} (hk : k < 5) : Sub (p.getD k s0) ((mL p q).getD k s0) := by
  have := (okL_iff p q).1 h k hk
  rw [mL_get p q hk]
  unfold sok at this
  rw [decide_eq_true_eq] at this
  refine ⟨?_, this, ?_⟩ <;> unfold sm <;> simp only <;> split <;> omega
/-- A point in both: then they meet. -/
theorem okL_of {p q : Pr} {x : Nat → Int} (hp : hasP p x = true) (hq : hasP q x = true) : okL p q = true := by
  rw [okL_iff]
  intro k hk
  have h1 := (hasP_iff p x).1 hp k hk
  have h2 := (hasP_iff q x).1 hq k hk
  unfold sok sm
  rw [decide_eq_true_eq]; simp only
  split <;> split <;> omega
/-- The first point of a box. -/
def low (p : Pr) (k : Nat) : Int := vk (p.getD k s0).1
def high (p : Pr) (k : Nat) : Int := vk (p.getD k s0).2.1
theorem low_in {f : Int} {p : Pr} (h : NP f p) : hasP p (low p) = true := (hasP_iff _ _).2 fun k hk => ⟨Int.le_refl _, (h.rng k hk).2.1⟩
theorem high_in {f : Int} {p : Pr} (h : NP f p) : hasP p (high p) = true := (hasP_iff _ _).2 fun k hk => ⟨(h.rng k hk).2.1, Int.le_refl _⟩
theorem mL_low {p q : Pr} (h : okL p q = true) : hasP p (low (mL p q)) = true ∧ hasP q (low (mL p q)) = true := by
  have hx : hasP (mL p q) (low (mL p q)) = true := (hasP_iff _ _).2 fun k hk => ⟨Int.le_refl _, (mL_sub h hk).2.1⟩
  rw [mL_has, Bool.and_eq_true] at hx
  exact hx
theorem mnP_np {f : Int} {a : Pr} (b : Pr) (ha : NP f a) : ∀ p ∈ mnP a b, NP f p := by
  unfold mnP
  split
  · rename_i h; exact outP_np ha (mL_len _ _) (fun k hk => mL_sub h hk) 5 (by omega)
  · intro p hp; simp at hp; subst hp; exact ha
/-- A POINT OF A BOX IS IN ONE PIECE OF WHAT IS LEFT OR IN THE OTHER BOX. -/
theorem mnP_cnt {f : Int} {a : Pr} (b : Pr) (ha : NP f a) (x : Nat → Int) : cnt (mnP a b) x + (hasP a x && hasP b x).toNat = (hasP a x).toNat := by
  unfold mnP
  split
  · rename_i h
    have := outP_cnt ha (mL_len a b) (fun k hk => mL_sub h hk) x 5 (by omega)
    rw [cK_5 ha.len (mL_len a b), mL_has] at this
    exact this
  · rename_i h
    rw [cnt_one]
    have : (hasP a x && hasP b x) = false := by
      cases h1 : hasP a x
      · rfl
      · cases h2 : hasP b x
        · rfl
        · exact absurd (okL_of h1 h2) h
    rw [this]; rfl
theorem mnP_len (a b : Pr) : (mnP a b).length ≤ 10 := by
  unfold mnP
  split
  · have : ∀ k, (outP a (mL a b) k).length ≤ 2 * k := by
      intro k
      induction k with
      | zero => simp [outP]
      | succ k ih =>
        have h2 : (pcP (cK a (mL a b) k) (mL a b) k).length ≤ 2 := by unfold pcP; split <;> split <;> simp
        simp only [outP, List.length_append]; omega
    exact this 5
  · simp
theorem cnt_pos {l : List Pr} {i : Nat} {p : Pr} (h : l[i]? = some p) {x : Nat → Int} (hx : hasP p x = true) : 0 < cnt l x := List.countP_pos_iff.2 ⟨p, List.mem_of_getElem? h, hx⟩
theorem cnt_two : ∀ {l : List Pr} {i j : Nat} {p q : Pr}, i < j → l[i]? = some p → l[j]? = some q → ∀ {x : Nat → Int}, hasP p x = true → hasP q x = true → 2 ≤ cnt l x
  | [], i, j, p, q, _, h, _, x, _, _ => by simp at h
  | a :: l, 0, j + 1, p, q, _, h, h', x, hp, hq => by
    simp at h h'; subst h
    have := cnt_pos h' hq
    unfold cnt at *
    rw [List.countP_cons, if_pos hp]; omega
  | a :: l, i + 1, j + 1, p, q, hij, h, h', x, hp, hq => by
    have := cnt_two (l := l) (i := i) (j := j) (by omega) (by simpa using h) (by simpa using h') hp hq
    unfold cnt at *
    rw [List.countP_cons]; omega
/-- Boxes that no point has twice do not meet. -/
theorem apart_of {l : List Pr} (h : ∀ x, cnt l x ≤ 1) {i j : Nat} {p q : Pr} (hij : i < j) (hi : l[i]? = some p) (hj : l[j]? = some q) : okL q p = false := by
  cases ho : okL q p
  · rfl
  · obtain ⟨h1, h2⟩ := mL_low ho
    have := cnt_two hij hi hj h2 h1
    have := h (low (mL q p))
    omega
theorem mnP_apart {f : Int} {a : Pr} (b : Pr) (ha : NP f a) {p : Pr} (hp : p ∈ mnP a b) : okL p b = false := by
  cases ho : okL p b
  · rfl
  · obtain ⟨h1, h2⟩ := mL_low ho
    have := mnP_cnt b ha (low (mL p b))
    have h3 : 0 < cnt (mnP a b) (low (mL p b)) := List.countP_pos_iff.2 ⟨p, hp, h1⟩
    rw [h2, Bool.and_true] at this
    omega
theorem mnP_in {f : Int} {a : Pr} (b : Pr) (ha : NP f a) {p : Pr} (hp : p ∈ mnP a b) {x : Nat → Int} (hx : hasP p x = true) : hasP a x = true := by
  have := mnP_cnt b ha x
  have h3 : 0 < cnt (mnP a b) x := List.countP_pos_iff.2 ⟨p, hp, hx⟩
  cases h : hasP a x
  · rw [h] at this; simp at this; omega
  · rfl
/-- A part meets the whole in itself. -/
theorem sm_self {s t : Sd} (h1 : vk t.1 ≤ vk s.1) (h2 : vk s.2.1 ≤ vk t.2.1) : sm s t = s := by
  unfold sm
  rw [if_neg (by omega), if_neg (by omega)]
theorem mnP_inside {f : Int} {a : Pr} (b : Pr) (ha : NP f a) {p : Pr} (hp : p ∈ mnP a b) : okL p a = true ∧ mL p a = p := by
  have hn := mnP_np b ha p hp
  have h1 := mnP_in b ha hp (low_in hn)
  have h2 := mnP_in b ha hp (high_in hn)
  refine ⟨okL_of (low_in hn) h1, ext5 (mL_len _ _) hn.len fun k hk => ?_⟩
  rw [mL_get _ _ hk]
  exact sm_self ((hasP_iff _ _).1 h1 k hk).1 ((hasP_iff _ _).1 h2 k hk).2
/-! Boxes and ranges. -/
theorem iu64_small {n : Int} (h0 : 0 ≤ n) (h1 : n ≤ 1000000) : (iu64 n).toNat = n.toNat := by
  obtain ⟨m, rfl⟩ := Int.eq_ofNat_of_zero_le h0
  unfold iu64
  show (BitVec.ofInt 64 (m : Int)).toNat = _
  rw [BitVec.toNat_ofInt]; omega
theorem vk_nv {n : Int} (h0 : -1 ≤ n) (h1 : n ≤ 65535) : vk (nv n) = n + 1 := by
  unfold vk nv
  simp only
  rw [w64_of (by omega) (by omega), iu64_small (by omega) (by omega)]
  have : ((0 : UInt64).toNat : Int) = 0 := rfl
  rw [this]; omega
theorem small_of {v : V} (h0 : 0 ≤ vk v) (h1 : vk v ≤ 65536) : v.1 = 0 ∧ v.2.1 = 0 ∧ (v.2.2.1.toNat : Int) = vk v := by
  have q1 := v.2.1.toNat_lt; have q2 := v.2.2.1.toNat_lt
  unfold vk at h0 h1
  have e1 : v.1 = 0 := by omega
  have e2 : v.2.1.toNat = 0 := by omega
  refine ⟨e1, UInt64.toNat_inj.1 (by rw [e2]; rfl), ?_⟩
  unfold vk; omega
theorem nm_vk {v : V} (h0 : 0 ≤ vk v) (h1 : vk v ≤ 65536) : nm v = vk v - 1 := by
  obtain ⟨_, _, e⟩ := small_of h0 h1
  unfold nm
  rw [w64_of (x := (v.2.2.1.toNat : Int)) (by omega) (by omega), w64_of (by omega) (by omega), e]
theorem nv_nm {v : V} (h0 : 0 ≤ vk v) (h1 : vk v ≤ 65536) : nv (nm v) = v := by
  apply vk_inj
  rw [nm_vk h0 h1, vk_nv (by omega) (by omega)]; omega
theorem ad_id (v : V) : ad v = v := rfl
theorem ns_small {f : Int} {k : Nat} (h2 : 2 ≤ k) (hk : k < 5) {s : Sd} (h : NS f k s) : 0 ≤ vk s.1 ∧ vk s.1 ≤ 65536 ∧ 0 ≤ vk s.2.1 ∧ vk s.2.1 ≤ 65536 := by
  obtain ⟨a, b, c⟩ := h
  unfold bg at a; unfold nd at c
  have : k = 2 ∨ k = 3 ∨ k = 4 := by omega
  rcases this with rfl | rfl | rfl <;> simp at a c <;> omega
theorem of_bx {f : Int} {p : Pr} (h : NP f p) : ofB (bxOf p) = p := by
  match p, h.len, h.rng with
  | [p0, p1, p2, p3, p4], _, hr =>
    have h2 := ns_small (by omega) (by omega) (hr 2 (by omega))
    have h3 := ns_small (by omega) (by omega) (hr 3 (by omega))
    have h4 := ns_small (by omega) (by omega) (hr 4 (by omega))
    simp only [List.getD_cons_zero, List.getD_cons_succ] at h2 h3 h4
    unfold ofB bxOf
    simp only [List.getD_cons_zero, List.getD_cons_succ, ad_id]
    rw [nv_nm h2.1 h2.2.1, nv_nm h2.2.2.1 h2.2.2.2, nv_nm h3.1 h3.2.1, nv_nm h3.2.2.1 h3.2.2.2, nv_nm h4.1 h4.2.1, nv_nm h4.2.2.1 h4.2.2.2]
theorem aok_vk {f : Int} (hf : f = 4 ∨ f = 6) (v : V) : AOk f v ↔ f * 340282366920938463463374607431768211456 ≤ vk v ∧ vk v ≤ nd f 0 := by
  have q1 := v.2.1.toNat_lt; have q2 := v.2.2.1.toNat_lt
  unfold AOk nd vk
  have e : v.2.1 = 0 ↔ v.2.1.toNat = 0 := by rw [← UInt64.toNat_inj]; rfl
  rw [e]
  rcases hf with rfl | rfl
  · simp only [forall_const, Nat.zero_lt_succ, if_true]
    constructor
    · rintro ⟨h1, h2, h3⟩; rw [h1]; omega
    · rintro ⟨h1, h2⟩
      have h3 : v.1 = 4 := by omega
      rw [h3] at h1 h2
      refine ⟨h3, ?_, ?_⟩ <;> omega
  · simp only [Nat.zero_lt_succ, if_true]
    constructor
    · rintro ⟨h1, h2⟩; rw [h1]; simp; omega
    · rintro ⟨h1, h2⟩; simp at h2; exact ⟨by omega, fun h => absurd h (by decide)⟩
theorem sok_vk {f : Int} (hf : f = 4 ∨ f = 6) (lo hi : V) : SOk f lo hi ↔ f * 340282366920938463463374607431768211456 ≤ vk lo ∧ vk lo ≤ vk hi ∧ vk hi ≤ nd f 0 := by
  unfold SOk
  rw [aok_vk hf, aok_vk hf]
  constructor
  · rintro ⟨⟨h1, h2⟩, ⟨h3, h4⟩, h5, h6⟩
    refine ⟨h1, ?_, h4⟩
    have q1 := lo.2.1.toNat_lt; have q2 := lo.2.2.1.toNat_lt; have q3 := hi.2.1.toNat_lt; have q4 := hi.2.2.1.toNat_lt
    have g1 : lo.1 = f := by
      have := (aok_vk hf lo).2 ⟨h1, h2⟩; exact this.1
    have g2 : hi.1 = f := by
      have := (aok_vk hf hi).2 ⟨h3, h4⟩; exact this.1
    unfold vk; rw [g1, g2]
    by_cases e : lo.2.1.toNat = hi.2.1.toNat
    · have := h6 e; omega
    · omega
  · rintro ⟨h1, h2, h3⟩
    have a1 : AOk f lo := (aok_vk hf lo).2 ⟨h1, by omega⟩
    have a2 : AOk f hi := (aok_vk hf hi).2 ⟨by omega, h3⟩
    have q1 := lo.2.1.toNat_lt; have q2 := lo.2.2.1.toNat_lt; have q3 := hi.2.1.toNat_lt; have q4 := hi.2.2.1.toNat_lt
    have h2' := h2
    unfold vk at h2'
    rw [a1.1, a2.1] at h2'
    refine ⟨⟨h1, by omega⟩, ⟨by omega, h3⟩, by omega, fun e => by omega⟩
theorem bok_np {b : Bx} (h : BOk b) : ∃ f, (f = 4 ∨ f = 6) ∧ NP f (ofB b) ∧ bxOf (ofB b) = b := by
  obtain ⟨⟨f, hf, s1, s2⟩, ⟨p1, p2, p3⟩, ⟨x, y, e1, x1, x2, x3⟩, ⟨u, v, e2, u1, u2, u3⟩⟩ := h
  rw [sok_vk hf] at s1 s2
  refine ⟨f, hf, ⟨rfl, fun k hk => ?_⟩, ?_⟩
  · unfold ofB
    rw [e1, e2]
    rcases k5 hk with rfl | rfl | rfl | rfl | rfl
    · exact s1
    · exact s2
    · show NS f 2 (nv _, nv _, ()); unfold NS; simp only; rw [vk_nv (by omega) (by omega), vk_nv (by omega) (by omega)]; unfold bg nd; simp; omega
    · show NS f 3 (nv x, nv y, ()); unfold NS; simp only; rw [vk_nv (by omega) (by omega), vk_nv (by omega) (by omega)]; unfold bg nd; simp; omega
    · show NS f 4 (nv u, nv v, ()); unfold NS; simp only; rw [vk_nv (by omega) (by omega), vk_nv (by omega) (by omega)]; unfold bg nd; simp; omega
  · have g : ∀ n : Int, -1 ≤ n → n ≤ 65535 → nm (nv n) = n := by
      intro n h0 h1
      have := vk_nv h0 h1
      rw [nm_vk (by omega) (by omega)]; omega
    obtain ⟨a1, a2, a3, a4, a5, a6, a7, a8, a9⟩ := b
    simp only at e1 e2 p1 p2 p3
    subst e1; subst e2
    unfold bxOf ofB
    simp only [List.getD_cons_zero, List.getD_cons_succ, ad_id]
    rw [g _ (by omega) (by omega), g _ (by omega) (by omega), g _ (by omega) (by omega), g _ (by omega) (by omega), g _ (by omega) (by omega), g _ (by omega) (by omega)]
theorem np_bok {f : Int} (hf : f = 4 ∨ f = 6) {p : Pr} (h : NP f p) : BOk (bxOf p) := by
  have r0 := h.rng 0 (by omega); have r1 := h.rng 1 (by omega); have r2 := h.rng 2 (by omega); have r3 := h.rng 3 (by omega); have r4 := h.rng 4 (by omega)
  have h2 := ns_small (by omega) (by omega) r2
  have h3 := ns_small (by omega) (by omega) r3
  have h4 := ns_small (by omega) (by omega) r4
  unfold NS at r2 r3 r4
  simp only [bg, nd] at r2 r3 r4
  refine ⟨⟨f, hf, (sok_vk hf _ _).2 r0, (sok_vk hf _ _).2 r1⟩, ?_, ⟨_, _, rfl, ?_⟩, ⟨_, _, rfl, ?_⟩⟩
  · unfold bxOf; simp only
    rw [nm_vk h2.1 h2.2.1, nm_vk h2.2.2.1 h2.2.2.2]; simp at r2 ⊢; omega
  · rw [nm_vk h3.1 h3.2.1, nm_vk h3.2.2.1 h3.2.2.2]; simp at r3 ⊢; omega
  · rw [nm_vk h4.1 h4.2.1, nm_vk h4.2.2.1 h4.2.2.2]; simp at r4 ⊢; omega
theorem mns_map (a b : Bx) (ha : bxOf (ofB a) = a) : mns a b = (mnP (ofB a) (ofB b)).map bxOf := by
  unfold mns mnP
  split
  · exact outK_map _ _ 5
  · rw [List.map_cons, ha]; rfl
end Go.Proofs.Ytgbkkfpheahdfaa.Pl

/- Plain: loops that look for the first place where a test holds. -/
namespace Go.Proofs.Ytgbkkfpheahdfaa.Pl
open Go
/-- The first number below n, from k on, at which a test holds. -/
def firstAt (q : Nat → Bool) (k : Nat) : Nat → Option Nat
  | 0 => none
  | n + 1 => if q k = true then some k else firstAt q (k + 1) n
theorem firstAt_none {q : Nat → Bool} : ∀ {n k : Nat}, firstAt q k n = none ↔ ∀ i, k ≤ i → i < k + n → q i = false
  | 0, k => ⟨fun _ i h h' => by omega, fun _ => rfl⟩
  | n + 1, k => by
    unfold firstAt
    by_cases h : q k = true
    · rw [if_pos h]
      constructor
      · intro h'; cases h'
      · intro h'; rw [h' k (by omega) (by omega)] at h; cases h
    · rw [if_neg h, firstAt_none]
      constructor
      · intro h' i h1 h2
        by_cases e : i = k
        · subst e; simpa using h
        · exact h' i (by omega) (by omega)
      · intro h' i h1 h2; exact h' i (by omega) (by omega)
theorem firstAt_some {q : Nat → Bool} : ∀ {n k i : Nat}, firstAt q k n = some i ↔ (k ≤ i ∧ i < k + n ∧ q i = true ∧ ∀ j, k ≤ j → j < i → q j = false)
  | 0, k, i => ⟨fun h => (by cases h), fun ⟨h1, h2, _⟩ => by omega⟩
  | n + 1, k, i => by
    unfold firstAt
    by_cases h : q k = true
    · rw [if_pos h]
      constructor
      · intro e; cases e; exact ⟨by omega, by omega, h, fun j h1 h2 => by omega⟩
      · rintro ⟨h1, h2, h3, h4⟩
        by_cases e : k = i
        · rw [e]
        · have := h4 k (by omega) (by omega); rw [this] at h; cases h
    · rw [if_neg h, firstAt_some]
      constructor
      · rintro ⟨h1, h2, h3, h4⟩
        refine ⟨by omega, by omega, h3, fun j h5 h6 => ?_⟩
        by_cases e : j = k
        · subst e; simpa using h
        · exact h4 j (by omega) h6
      · rintro ⟨h1, h2, h3, h4⟩
        have : k ≠ i := fun e => h (e ▸ h3)
        exact ⟨by omega, by omega, h3, fun j h5 h6 => h4 j (by omega) h6⟩
theorem firstAt_congr {q q' : Nat → Bool} : ∀ {n k : Nat}, (∀ i, k ≤ i → i < k + n → q i = q' i) → firstAt q k n = firstAt q' k n
  | 0, k, _ => rfl
  | n + 1, k, h => by
    unfold firstAt
    rw [h k (by omega) (by omega), firstAt_congr fun i h1 h2 => h i (by omega) (by omega)]
/-- A loop that ends where a test holds first. -/
theorem loopK_find {S E R : Type} {step : S → Option (Lo S E R)} {J : E → Option R} (xs : Nat → S) (q : Nat → Bool) (r : Nat → R) {n : Nat} {e : E}
    (h : ∀ i, i < n → q i = false → step (xs i) = some (.go (xs (i + 1)))) (h' : ∀ i, i < n → q i = true → step (xs i) = some (.rt (r i))) (hb : step (xs n) = some (.br e)) {N : Nat} (hN : n < N) :
    loopK N step J (xs 0) = match firstAt q 0 n with
      | none => J e
      | some i => some (r i) := by
  suffices H : ∀ m k, k + m = n → ∀ M, m < M → loopK M step J (xs k) = match firstAt q k m with
      | none => J e
      | some i => some (r i) from H n 0 (by omega) N hN
  intro m
  induction m with
  | zero =>
    intro k hk M hM
    obtain ⟨M, rfl⟩ : ∃ m, M = m + 1 := ⟨M - 1, by omega⟩
    have : k = n := by omega
    subst this
    rw [loopK_succ, hb]; rfl
  | succ m ih =>
    intro k hk M hM
    obtain ⟨M, rfl⟩ : ∃ m, M = m + 1 := ⟨M - 1, by omega⟩
    unfold firstAt
    cases hq : q k with
    | true => rw [loopK_succ, h' k (by omega) hq, if_pos rfl]; rfl
    | false =>
      rw [loopK_succ, h k (by omega) hq, if_neg (by decide)]
      exact ih (k + 1) (by omega) M (by omega)
/-- Tests up to n that all hold. -/
def allB (q : Nat → Bool) (n : Nat) : Bool := (firstAt (fun i => !(q i)) 0 n).isNone
theorem allB_iff {q : Nat → Bool} {n : Nat} : allB q n = true ↔ ∀ i, i < n → q i = true := by
  unfold allB
  rw [Option.isNone_iff_eq_none, firstAt_none]
  constructor
  · intro h i hi; have := h i (by omega) (by omega); simpa using this
  · intro h i h1 h2; rw [h i (by omega)]; rfl
/-- A loop that ends with one answer as soon as a test fails. -/
theorem loopK_all {S E R : Type} {step : S → Option (Lo S E R)} {J : E → Option R} (xs : Nat → S) (q : Nat → Bool) (r : R) {n : Nat} {e : E}
    (h : ∀ i, i < n → q i = true → step (xs i) = some (.go (xs (i + 1)))) (h' : ∀ i, i < n → q i = false → step (xs i) = some (.rt r)) (hb : step (xs n) = some (.br e)) {N : Nat} (hN : n < N) :
    loopK N step J (xs 0) = if allB q n = true then J e else some r := by
  rw [loopK_find (step := step) (J := J) xs (fun i => !(q i)) (fun _ => r) (fun i hi hq => h i hi (by simpa using hq)) (fun i hi hq => h' i hi (by simpa using hq)) hb hN]
  unfold allB
  cases firstAt (fun i => !(q i)) 0 n <;> simp
end Go.Proofs.Ytgbkkfpheahdfaa.Pl

/- Plain: the document's boxes (ref05, ref19, ref20): what two have in common, what is left, which packets are in one. -/
namespace Go.Proofs.Ytgbkkfpheahdfaa.Pl
open Go
theorem less_ok (N : Nat) (a b : V) : ref05_Less N a b = some ((decide (vk a < vk b), ()), ()) := by
  unfold ref05_Less
  have e := vk_lt a b
  by_cases h1 : a.1 = b.1
  · by_cases h2 : a.2.1 = b.2.1
    · simp only [h1, h2, decide_true, dpos, dneg, w64_of, inR_of, room_of, tmod_of, cond_true, cond_false, Bool.and_self, Bool.and_true, Bool.true_and, Bool.and_false, Bool.false_and, Bool.not_true, Bool.not_false, Option.bind_some, List.length_cons, List.length_nil, Nat.zero_add]
      congr 3
      apply decide_eq_decide.2
      rw [e]
      constructor
      · intro h; exact .inr ⟨h1, .inr ⟨h2, h⟩⟩
      · rintro (h | ⟨_, h | ⟨_, h⟩⟩)
        · omega
        · rw [h2] at h; exact absurd h (UInt64.lt_irrefl _)
        · exact h
    · simp only [h1, dneg h2, decide_true, dpos, dneg, w64_of, inR_of, room_of, tmod_of, cond_true, cond_false, Bool.and_self, Bool.and_true, Bool.true_and, Bool.and_false, Bool.false_and, Bool.not_true, Bool.not_false, Option.bind_some, List.length_cons, List.length_nil, Nat.zero_add]
      congr 3
      apply decide_eq_decide.2
      rw [e]
      constructor
      · intro h; exact .inr ⟨h1, .inl h⟩
      · rintro (h | ⟨_, h | ⟨h, _⟩⟩)
        · omega
        · exact h
        · exact absurd h h2
  · simp only [dneg h1, dpos, dneg, w64_of, inR_of, room_of, tmod_of, cond_true, cond_false, Bool.and_self, Bool.and_true, Bool.true_and, Bool.and_false, Bool.false_and, Bool.not_true, Bool.not_false, Option.bind_some, List.length_cons, List.length_nil, Nat.zero_add]
    congr 3
    apply decide_eq_decide.2
    rw [e]
    constructor
    · intro h; exact .inl h
    · rintro (h | ⟨h, _⟩)
      · exact h
      · exact absurd h h1
theorem greater_ok (N : Nat) (a b : V) : ref05_Greater N a b = some ((if vk a < vk b then b else a, ()), ()) := by
  unfold ref05_Greater
  rw [less_ok]
  by_cases h : vk a < vk b <;> simp [h]
theorem smaller_ok (N : Nat) (a b : V) : ref05_Smaller N a b = some ((if vk b < vk a then b else a, ()), ()) := by
  unfold ref05_Smaller
  rw [less_ok]
  by_cases h : vk b < vk a <;> simp [h]
theorem between_ok (N : Nat) {f : Int} {lo hi : V} (h1 : lo.1 = f) (h2 : hi.1 = f) (a : V) : ref05_Between N a lo hi = some ((inS (lo, hi, ()) (vk a), ()), ()) := by
  unfold ref05_Between
  rw [less_ok, less_ok]
  unfold inS
  simp only [dpos, dneg, w64_of, inR_of, room_of, tmod_of, cond_true, cond_false, Bool.and_self, Bool.and_true, Bool.true_and, Bool.and_false, Bool.false_and, Bool.not_true, Bool.not_false, Option.bind_some, List.length_cons, List.length_nil, Nat.zero_add]
  have q1 := a.2.1.toNat_lt; have q2 := a.2.2.1.toNat_lt; have q3 := lo.2.1.toNat_lt; have q4 := lo.2.2.1.toNat_lt; have q5 := hi.2.1.toNat_lt; have q6 := hi.2.2.1.toNat_lt
  by_cases e : a.1 = lo.1
  · rw [dpos e]
    by_cases h3 : vk a < vk lo
    · simp only [dpos h3, dneg (show ¬ vk lo ≤ vk a by omega), dpos, dneg, w64_of, inR_of, room_of, tmod_of, cond_true, cond_false, Bool.and_self, Bool.and_true, Bool.true_and, Bool.and_false, Bool.false_and, Bool.not_true, Bool.not_false, Option.bind_some, List.length_cons, List.length_nil, Nat.zero_add]
    · by_cases h4 : vk hi < vk a
      · simp only [dneg h3, dpos h4, dpos (show vk lo ≤ vk a by omega), dneg (show ¬ vk a ≤ vk hi by omega), dpos, dneg, w64_of, inR_of, room_of, tmod_of, cond_true, cond_false, Bool.and_self, Bool.and_true, Bool.true_and, Bool.and_false, Bool.false_and, Bool.not_true, Bool.not_false, Option.bind_some, List.length_cons, List.length_nil, Nat.zero_add]
      · simp only [dneg h3, dneg h4, dpos (show vk lo ≤ vk a by omega), dpos (show vk a ≤ vk hi by omega), dpos, dneg, w64_of, inR_of, room_of, tmod_of, cond_true, cond_false, Bool.and_self, Bool.and_true, Bool.true_and, Bool.and_false, Bool.false_and, Bool.not_true, Bool.not_false, Option.bind_some, List.length_cons, List.length_nil, Nat.zero_add]
  · rw [dneg e, cond_false]
    have : ¬ (vk lo ≤ vk a ∧ vk a ≤ vk hi) := by
      unfold vk; rw [h1, h2]; rw [h1] at e; omega
    by_cases h3 : vk lo ≤ vk a
    · rw [dneg (show ¬ vk a ≤ vk hi by omega), Bool.and_false]
    · rw [dneg h3, Bool.false_and]
theorem low_ok (N : Nat) (b : Bx) {k : Nat} (hk : k < 5) : ref20_low N b (k : Int) = some ((((ofB b).getD k s0).1, ()), ()) := by
  rcases k5 hk with rfl | rfl | rfl | rfl | rfl <;> rfl
theorem high_ok (N : Nat) (b : Bx) {k : Nat} (hk : k < 5) : ref20_high N b (k : Int) = some ((((ofB b).getD k s0).2.1, ()), ()) := by
  rcases k5 hk with rfl | rfl | rfl | rfl | rfl <;> rfl
theorem with_ok (N : Nat) {p : Pr} (hp : p.length = 5) {k : Nat} (hk : k < 5) (lo hi : V) : ref20_with N (bxOf p) (k : Int) lo hi = some ((bxOf (p.set k (lo, hi, ())), ()), ()) := by
  match p, hp with
  | [p0, p1, p2, p3, p4], _ => rcases k5 hk with rfl | rfl | rfl | rfl | rfl <;> rfl
theorem back_ok (N : Nat) (v : V) : ref20_back N v = some ((ahead v, ()), ()) := by
  unfold ref20_back ref20_back_1 ahead
  by_cases h : v.2.2.1 = 0 <;> simp [h]
theorem on_ok (N : Nat) (v : V) : ref20_on N v = some ((behind v, ()), ()) := by
  unfold ref20_on behind
  by_cases h : v.2.2.1 + 1 = 0 <;> simp [h]
theorem fam_of {f : Int} {b : Bx} (h : NP f (ofB b)) : b.1.1 = f ∧ b.2.1.1 = f ∧ b.2.2.1.1 = f ∧ b.2.2.2.1.1 = f := by
  have key : ∀ v : V, f * 340282366920938463463374607431768211456 ≤ vk v → vk v ≤ nd f 0 → v.1 = f := by
    intro v h1 h2
    have q1 := v.2.1.toNat_lt; have q2 := v.2.2.1.toNat_lt
    have := (bg_dg (f := f) (k := 0) (by omega)).2
    simp only [dg, Nat.zero_lt_succ, if_true] at this
    unfold vk at h1 h2; omega
  obtain ⟨r1, r2, r3⟩ := h.rng 0 (by omega)
  obtain ⟨t1, t2, t3⟩ := h.rng 1 (by omega)
  have e0 : bg f 0 = f * 340282366920938463463374607431768211456 := rfl
  have e1 : bg f 1 = f * 340282366920938463463374607431768211456 := rfl
  have e2 : nd f 1 = nd f 0 := rfl
  have u1 : ((ofB b).getD 0 s0) = (b.1, b.2.1, ()) := rfl
  have u2 : ((ofB b).getD 1 s0) = (b.2.2.1, b.2.2.2.1, ()) := rfl
  rw [u1] at r1 r2 r3
  rw [u2] at t1 t2 t3
  simp only at r1 r2 r3 t1 t2 t3
  exact ⟨key _ (by omega) (by omega), key _ (by omega) (by omega), key _ (by omega) (by omega), key _ (by omega) (by omega)⟩
theorem okL_fam {a b : Bx} (ha : BOk a) (hb : BOk b) (h : okL (ofB a) (ofB b) = true) : a.1.1 = b.1.1 := by
  obtain ⟨f, hf, na, _⟩ := bok_np ha
  obtain ⟨g, hg, nb, _⟩ := bok_np hb
  have fa := fam_of na
  have fb := fam_of nb
  obtain ⟨s1, s2, s3⟩ := mL_sub h (k := 0) (by omega)
  have hx := mL_low h
  have h1 := (hasP_iff _ _).1 hx.1 0 (by omega)
  have h2 := (hasP_iff _ _).1 hx.2 0 (by omega)
  obtain ⟨r1, r2, r3⟩ := na.rng 0 (by omega)
  obtain ⟨t1, t2, t3⟩ := nb.rng 0 (by omega)
  have d1 := bg_dg (f := f) (k := 0) (by omega)
  have d2 := bg_dg (f := g) (k := 0) (by omega)
  simp only [dg, Nat.zero_lt_succ, if_true] at d1 d2
  have e0 : bg f 0 = f * 340282366920938463463374607431768211456 := rfl
  have e1 : bg g 0 = g * 340282366920938463463374607431768211456 := rfl
  rw [fa.1, fb.1]
  omega
/-- A box is its ranges. -/
theorem bx_id {b : Bx} (h : BOk b) : bxOf (ofB b) = b := by obtain ⟨_, _, _, e⟩ := bok_np h; exact e
def meetB (a b : Bx) : Bx × Bool := (if okL (ofB a) (ofB b) = true then bxOf (mL (ofB a) (ofB b)) else b0, okL (ofB a) (ofB b))
theorem rmeet_ok (N : Nat) (hN : 4611686018427387904 ≤ N) {a b : Bx} (ha : BOk a) (hb : BOk b) : ref20_Meet N a b = some (((meetB a b).1, (meetB a b).2, ()), ()) := by
  unfold ref20_Meet meetB
  by_cases hf : a.1.1 = b.1.1
  · rw [dpos hf]
    simp only [dpos, dneg, w64_of, inR_of, room_of, tmod_of, cond_true, cond_false, Bool.and_self, Bool.and_true, Bool.true_and, Bool.and_false, Bool.false_and, Bool.not_true, Bool.not_false, Option.bind_some, List.length_cons, List.length_nil, Nat.zero_add]
    unfold ref20_Meet_1
    have hl : (ofB a).length = 5 := rfl
    have hm : (mL (ofB a) (ofB b)).length = 5 := rfl
    have := loopK_all (step := fun y => ref20_Meet_s2 N y.1.1 y.2.1 y.2.2.1 y.2.2.2.1 y.2.2.2.2.1) (J := fun (e : ((Unit) × (Bx × Bx × Unit))) => ref20_Meet_3 N e.2.1 e.2.2.1)
      (fun k : Nat => (((k : Int), ()), (a, b, b0, bxOf (cK (ofB a) (mL (ofB a) (ofB b)) k), ()))) (fun k => sok (sm ((ofB a).getD k s0) ((ofB b).getD k s0))) ((b0, false, ()), ()) (n := 5) (e := ((), (b0, bxOf (mL (ofB a) (ofB b)), ()))) ?_ ?_ ?_ (show 5 < N by omega)
    · simp only [cK_0, bx_id ha] at this
      refine this.trans ?_
      have hall : allB (fun k => sok (sm ((ofB a).getD k s0) ((ofB b).getD k s0))) 5 = okL (ofB a) (ofB b) := by
        rw [Bool.eq_iff_iff, allB_iff, okL_iff]
      rw [hall]
      cases okL (ofB a) (ofB b)
      · rfl
      · rfl
    · intro k hk hq
      show ref20_Meet_s2 N _ _ _ _ _ = _
      unfold ref20_Meet_s2
      have hs : ¬ (if vk ((ofB b).getD k s0).2.1 < vk ((ofB a).getD k s0).2.1 then vk ((ofB b).getD k s0).2.1 else vk ((ofB a).getD k s0).2.1) < (if vk ((ofB a).getD k s0).1 < vk ((ofB b).getD k s0).1 then vk ((ofB b).getD k s0).1 else vk ((ofB a).getD k s0).1) := by
        unfold sok sm at hq
        rw [decide_eq_true_eq] at hq
        simp only at hq
        split <;> split at hq <;> split <;> (try split at hq) <;> (try simp_all) <;> omega
      simp only [low_ok N _ hk, high_ok N _ hk, greater_ok, smaller_ok, less_ok, dpos, dneg, w64_of, inR_of, room_of, tmod_of, cond_true, cond_false, Bool.and_self, Bool.and_true, Bool.true_and, Bool.and_false, Bool.false_and, Bool.not_true, Bool.not_false, Option.bind_some, List.length_cons, List.length_nil, Nat.zero_add]
      have e1 : ∀ (c : Prop) [Decidable c] (x y : V), vk (if c then x else y) = if c then vk x else vk y := fun c _ x y => by split <;> rfl
      rw [dpos (show ((k : Nat) : Int) < 5 by omega), e1, e1, dneg hs]
      simp only [dpos, dneg, w64_of, inR_of, room_of, tmod_of, cond_true, cond_false, Bool.and_self, Bool.and_true, Bool.true_and, Bool.and_false, Bool.false_and, Bool.not_true, Bool.not_false, Option.bind_some, List.length_cons, List.length_nil, Nat.zero_add, with_ok N (cK_len' hl hm (show k ≤ 5 by omega)) hk]
      have := cK_set' hl hm hk
      rw [mL_get _ _ hk] at this
      unfold sm at this
      rw [this, w64_of (by omega) (by omega)]
      rfl
    · intro k hk hq
      show ref20_Meet_s2 N _ _ _ _ _ = _
      unfold ref20_Meet_s2
      have hs : (if vk ((ofB b).getD k s0).2.1 < vk ((ofB a).getD k s0).2.1 then vk ((ofB b).getD k s0).2.1 else vk ((ofB a).getD k s0).2.1) < (if vk ((ofB a).getD k s0).1 < vk ((ofB b).getD k s0).1 then vk ((ofB b).getD k s0).1 else vk ((ofB a).getD k s0).1) := by
        unfold sok sm at hq
        rw [decide_eq_false_iff_not] at hq
        simp only at hq
        split <;> split at hq <;> split <;> (try split at hq) <;> (try simp_all) <;> omega
      simp only [low_ok N _ hk, high_ok N _ hk, greater_ok, smaller_ok, less_ok, dpos, dneg, w64_of, inR_of, room_of, tmod_of, cond_true, cond_false, Bool.and_self, Bool.and_true, Bool.true_and, Bool.and_false, Bool.false_and, Bool.not_true, Bool.not_false, Option.bind_some, List.length_cons, List.length_nil, Nat.zero_add]
      have e1 : ∀ (c : Prop) [Decidable c] (x y : V), vk (if c then x else y) = if c then vk x else vk y := fun c _ x y => by split <;> rfl
      rw [dpos (show ((k : Nat) : Int) < 5 by omega), e1, e1, dpos hs]
      rfl
    · show ref20_Meet_s2 N _ _ _ _ _ = _
      unfold ref20_Meet_s2
      rw [cK_5 hl hm]
      rfl
  · have : okL (ofB a) (ofB b) = false := by
      cases h : okL (ofB a) (ofB b)
      · rfl
      · exact absurd (okL_fam ha hb h) hf
    rw [dneg hf, this]
    rfl
theorem mL_np {f : Int} {p q : Pr} (hp : NP f p) (h : okL p q = true) : NP f (mL p q) := sub_np hp (mL_len p q) fun _ hk => mL_sub h hk
theorem rminus_ok (N : Nat) (hN : 4611686018427387904 ≤ N) {a b : Bx} (ha : BOk a) (hb : BOk b) : ref20_Minus N a b = some ((), (mns a b, ())) := by
  unfold ref20_Minus mns
  rw [rmeet_ok N hN ha hb]
  unfold meetB
  simp only [dpos, dneg, w64_of, inR_of, room_of, tmod_of, cond_true, cond_false, Bool.and_self, Bool.and_true, Bool.true_and, Bool.and_false, Bool.false_and, Bool.not_true, Bool.not_false, Option.bind_some, List.length_cons, List.length_nil, Nat.zero_add]
  cases hok : okL (ofB a) (ofB b)
  · rfl
  · simp only [dpos, dneg, w64_of, inR_of, room_of, tmod_of, cond_true, cond_false, Bool.and_self, Bool.and_true, Bool.true_and, Bool.and_false, Bool.false_and, Bool.not_true, Bool.not_false, Option.bind_some, List.length_cons, List.length_nil, Nat.zero_add, if_true]
    obtain ⟨f, hf, na, _⟩ := bok_np ha
    have nm := mL_np na hok
    unfold ref20_Minus_1
    generalize hc : ofB a = c at *
    generalize hmm : mL c (ofB b) = m at *
    have hl : c.length = 5 := na.len
    have hml : m.length = 5 := nm.len
    have := loopK_run (step := fun y => ref20_Minus_s2 N y.1.1 y.2.1 y.2.2.1 y.2.2.2.1) (J := fun (e : ((Unit) × ((List Bx) × Unit))) => ref20_Minus_3 N e.2.1)
      (fun k : Nat => (((k : Int), ()), (bxOf m, outK c m k, bxOf (cK c m k), ()))) (n := 5) (e := ((), (outK c m 5, ()))) ?_ ?_ (show 5 < N by omega)
    · simp only [cK_0] at this
      rw [show bxOf c = a by rw [← hc]; exact bx_id ha] at this
      exact this.trans rfl
    · intro k hk
      have hl5 := outK_len c m k
      have hck := cK_len' hl hml (show k ≤ 5 by omega)
      have hnk := cK_np na hml nm (show k ≤ 5 by omega)
      have e1 : ofB (bxOf m) = m := of_bx nm
      have e2 : ofB (bxOf (cK c m k)) = cK c m k := of_bx hnk
      have e3 := cK_set' hl hml hk
      show ref20_Minus_s2 N _ _ _ _ = _
      unfold ref20_Minus_s2
      show _ = some (Lo.go ((((k + 1 : Nat) : Int), ()), (bxOf m, outK c m k ++ pcs (cK c m k) m k, bxOf (cK c m (k + 1)), ())))
      unfold pcs
      simp only [low_ok N _ hk, high_ok N _ hk, less_ok, back_ok, on_ok, with_ok N hck hk, e1, e2, dpos, dneg, w64_of, inR_of, room_of, tmod_of, cond_true, cond_false, Bool.and_self, Bool.and_true, Bool.true_and, Bool.and_false, Bool.false_and, Bool.not_true, Bool.not_false, Option.bind_some, List.length_cons, List.length_nil, Nat.zero_add]
      have e3' : (cK c m k).set k ((m.getD k s0).1, (m.getD k s0).2.1, ()) = cK c m (k + 1) := e3
      rw [dpos (show ((k : Nat) : Int) < 5 by omega), e3']
      have hw : w64 ((k : Int) + 1) = ((k + 1 : Nat) : Int) := by rw [w64_of (by omega) (by omega)]; rfl
      rw [hw]
      by_cases q1 : vk ((cK c m k).getD k s0).1 < vk (m.getD k s0).1
      · rw [dpos q1, if_pos q1]
        by_cases q2 : vk (m.getD k s0).2.1 < vk ((cK c m k).getD k s0).2.1
        · rw [dpos q2, if_pos q2]; simp (disch := omega) only [dpos, dneg, w64_of, inR_of, room_of, tmod_of, cond_true, cond_false, Bool.and_self, Bool.and_true, Bool.true_and, Bool.and_false, Bool.false_and, Bool.not_true, Bool.not_false, Option.bind_some, List.length_cons, List.length_nil, Nat.zero_add, List.length_append, List.append_assoc]
        · rw [dneg q2, if_neg q2]; simp (disch := omega) only [dpos, dneg, w64_of, inR_of, room_of, tmod_of, cond_true, cond_false, Bool.and_self, Bool.and_true, Bool.true_and, Bool.and_false, Bool.false_and, Bool.not_true, Bool.not_false, Option.bind_some, List.length_cons, List.length_nil, Nat.zero_add, List.append_nil]
      · rw [dneg q1, if_neg q1]
        by_cases q2 : vk (m.getD k s0).2.1 < vk ((cK c m k).getD k s0).2.1
        · rw [dpos q2, if_pos q2]; simp (disch := omega) only [dpos, dneg, w64_of, inR_of, room_of, tmod_of, cond_true, cond_false, Bool.and_self, Bool.and_true, Bool.true_and, Bool.and_false, Bool.false_and, Bool.not_true, Bool.not_false, Option.bind_some, List.length_cons, List.length_nil, Nat.zero_add, List.nil_append]
        · rw [dneg q2, if_neg q2, List.append_nil, List.append_nil]; rfl
    · show ref20_Minus_s2 N _ _ _ _ = _
      unfold ref20_Minus_s2
      rfl
/-! Equality of data that can be compared. -/
theorem dqL_refl {α : Type} {f : α → α → Bool} (h : ∀ x, f x x = true) : ∀ l : List α, dqL f l l = true
  | [] => rfl
  | x :: l => by simp only [dqL, h x, dqL_refl h l, Bool.and_self]
theorem dq_refl : ∀ (t : Ty) (x : t.den), t.flat = true → dq t x x = true := by
  intro t
  induction t with
  | sl t ih => intro x h; simp [Ty.flat] at h
  | arr n t ih => intro x h; exact dqL_refl (fun y => ih y (by simpa [Ty.flat] using h)) x
  | pair a b iha ihb =>
    intro x h
    simp only [Ty.flat, Bool.and_eq_true] at h
    simp only [dq, iha _ h.1, ihb _ h.2, Bool.and_self]
  | unit => intro x _; rfl
  | _ => intro x _; simp only [dq, decide_true]
theorem dqV (x y : V) : dq (.pair .i64 (.pair .u64 (.pair .u64 .unit))) x y = decide (x = y) := by
  obtain ⟨a, b, c, _⟩ := x
  obtain ⟨a', b', c', _⟩ := y
  simp only [dq, Bool.and_true]
  rw [Bool.eq_iff_iff]
  simp only [Bool.and_eq_true, decide_eq_true_eq, Prod.mk.injEq, and_true]
theorem same_boxes (N : Nat) (hN : 4611686018427387904 ≤ N) (l : List Bx) (hl : l.length ≤ 1000000) : ref19_SameBoxes N l l = some ((true, ()), ()) := by
  unfold ref19_SameBoxes ref19_SameBoxes_1
  simp (disch := omega) only [dpos, dneg, w64_of, inR_of, room_of, tmod_of, cond_true, cond_false, Bool.and_self, Bool.and_true, Bool.true_and, Bool.and_false, Bool.false_and, Bool.not_true, Bool.not_false, Option.bind_some, List.length_cons, List.length_nil, Nat.zero_add]
  refine (loopK_run (fun i : Nat => ((l, l, (i : Int), ()), ())) (n := l.length) ?_ (e := ((), ())) ?_ (by omega)).trans rfl
  · intro i hi
    show ref19_SameBoxes_s2 N _ _ _ = _
    unfold ref19_SameBoxes_s2
    simp (disch := omega) only [dpos, dneg, w64_of, inR_of, room_of, tmod_of, cond_true, cond_false, Bool.and_self, Bool.and_true, Bool.true_and, Bool.and_false, Bool.false_and, Bool.not_true, Bool.not_false, Option.bind_some, List.length_cons, List.length_nil, Nat.zero_add, Int.toNat_natCast, dq_refl _ _ (show Ty.flat (.pair (.pair .i64 (.pair .u64 (.pair .u64 .unit))) (.pair (.pair .i64 (.pair .u64 (.pair .u64 .unit))) (.pair (.pair .i64 (.pair .u64 (.pair .u64 .unit))) (.pair (.pair .i64 (.pair .u64 (.pair .u64 .unit))) (.pair .i64 (.pair .i64 (.pair (.arr 2 .i64) (.pair (.arr 2 .i64) .unit)))))))) = true from rfl), Int.natCast_add, Int.natCast_one]
  · show ref19_SameBoxes_s2 N _ _ _ = _
    unfold ref19_SameBoxes_s2
    simp (disch := omega) only [dpos, dneg, w64_of, inR_of, room_of, tmod_of, cond_true, cond_false, Bool.and_self, Bool.and_true, Bool.true_and, Bool.and_false, Bool.false_and, Bool.not_true, Bool.not_false, Option.bind_some, List.length_cons, List.length_nil, Nat.zero_add]
/-! Packets. -/
abbrev Pk := V × (V × (Int × (Int × (Int × Unit))))
def POk (p : Pk) : Prop := (-1 ≤ p.2.2.1 ∧ p.2.2.1 ≤ 65535) ∧ (-1 ≤ p.2.2.2.1 ∧ p.2.2.2.1 ≤ 65535) ∧ (-1 ≤ p.2.2.2.2.1 ∧ p.2.2.2.2.1 ≤ 65535)
/-- The packet as it is seen from this gateway. -/
def turn (p : Pk) (o : Bool) : Pk := bif o then p else (p.2.1, p.1, p.2.2.1, p.2.2.2.2.1, p.2.2.2.1, ())
theorem turn_pok {p : Pk} (h : POk p) (o : Bool) : POk (turn p o) := by
  obtain ⟨h1, h2, h3⟩ := h
  cases o
  · exact ⟨h1, h3, h2⟩
  · exact ⟨h1, h2, h3⟩
/-- The point of a packet. -/
def pt (p : Pk) : Nat → Int
  | 0 => vk p.1
  | 1 => vk p.2.1
  | 2 => p.2.2.1 + 1
  | 3 => p.2.2.2.1 + 1
  | _ => p.2.2.2.2.1 + 1
def hasB (b : Bx) (p : Pk) (o : Bool) : Bool := hasP (ofB b) (pt (turn p o))
theorem rturn_ok (N : Nat) (p : Pk) (o : Bool) : ref20_Turn N p o = some ((turn p o, ()), ()) := by cases o <;> rfl
theorem num_in {lo hi x : Int} (h1 : -1 ≤ lo) (h2 : lo ≤ 65535) (h3 : -1 ≤ hi) (h4 : hi ≤ 65535) : inS (nv lo, nv hi, ()) (x + 1) = (decide (lo ≤ x) && decide (x ≤ hi)) := by
  unfold inS
  simp only
  rw [vk_nv h1 h2, vk_nv h3 h4]
  congr 1 <;> apply decide_eq_decide.2 <;> omega
theorem rhas_ok (N : Nat) {b : Bx} (hb : BOk b) (p : Pk) (o : Bool) : ref20_Has N b p o = some ((hasB b p o, ()), ()) := by
  obtain ⟨f, hf, nb, _⟩ := bok_np hb
  have hfam := fam_of nb
  unfold ref20_Has hasB
  rw [rturn_ok]
  simp only [Option.bind_some]
  generalize turn p o = q
  rw [between_ok N hfam.1 hfam.2.1, between_ok N hfam.2.2.1 hfam.2.2.2]
  simp only [Option.bind_some]
  obtain ⟨p1, p2, p3⟩ := hb.proto
  obtain ⟨x, y, e1, x1, x2, x3⟩ := hb.lport
  obtain ⟨u, v, e2, u1, u2, u3⟩ := hb.rport
  have hh : hasP (ofB b) (pt q) = (inS (b.1, b.2.1, ()) (vk q.1) && (inS (b.2.2.1, b.2.2.2.1, ()) (vk q.2.1) && (inS (nv b.2.2.2.2.1, nv b.2.2.2.2.2.1, ()) (q.2.2.1 + 1) && (inS (nv x, nv y, ()) (q.2.2.2.1 + 1) && inS (nv u, nv v, ()) (q.2.2.2.2.1 + 1))))) := by
    unfold hasP ofB
    rw [e1, e2]
    rfl
  rw [hh, num_in (by omega) (by omega) (by omega) (by omega), num_in (by omega) (by omega) (by omega) (by omega), num_in (by omega) (by omega) (by omega) (by omega), e1, e2]
  simp only [List.getD_cons_zero, List.getD_cons_succ]
  cases inS (b.1, b.2.1, ()) (vk q.1)
  · rfl
  cases inS (b.2.2.1, b.2.2.2.1, ()) (vk q.2.1)
  · rfl
  cases decide (b.2.2.2.2.1 ≤ q.2.2.1)
  · rfl
  cases decide (q.2.2.1 ≤ b.2.2.2.2.2.1)
  · rfl
  cases decide (x ≤ q.2.2.2.1)
  · rfl
  cases decide (q.2.2.2.1 ≤ y)
  · rfl
  cases decide (u ≤ q.2.2.2.2.1)
  · rfl
  · rfl
theorem side_has (N : Nat) (hN : 4611686018427387904 ≤ N) (s : Sd) (v : V) : decorrelate_side_has N s v = some ((inS s (vk v), ()), ()) := by
  unfold decorrelate_side_has inS
  rw [compare_ok N _ _ hN, compare_ok N _ _ hN]
  simp only [Option.bind_some, cv_le]
  by_cases h1 : vk s.1 ≤ vk v <;> simp [h1]
theorem has_ok (N : Nat) (hN : 4611686018427387904 ≤ N) (b : Bx) {p : Pk} (hp : POk p) (o : Bool) : decorrelate_Has N b p o = some ((hasB b p o, ()), ()) := by
  have key : ∀ q : Pk, POk q → decorrelate_Has_1 N b q = some ((hasP (ofB b) (pt q), ()), ()) := by
    intro q hq
    obtain ⟨h1, h2, h3⟩ := hq
    unfold decorrelate_Has_1
    rw [of_box]
    show decorrelate_Has_2 N (ofB b) 0 [q.1, q.2.1, nv q.2.2.1, nv q.2.2.2.1, nv q.2.2.2.2.1] = _
    have hv : ∀ k, k < 5 → vk (([q.1, q.2.1, nv q.2.2.1, nv q.2.2.2.1, nv q.2.2.2.2.1] : List V).getD k v0) = pt q k := by
      intro k hk
      rcases k5 hk with rfl | rfl | rfl | rfl | rfl
      · rfl
      · rfl
      · exact vk_nv h1.1 h1.2
      · exact vk_nv h2.1 h2.2
      · exact vk_nv h3.1 h3.2
    generalize ([q.1, q.2.1, nv q.2.2.1, nv q.2.2.2.1, nv q.2.2.2.2.1] : List V) = L at *
    unfold decorrelate_Has_2
    refine (loopK_all (fun k : Nat => ((ofB b, (k : Int), ()), (L, ()))) (fun k => inS ((ofB b).getD k s0) (pt q k)) ((false, ()), ()) (n := 5) (e := ((), ())) ?_ ?_ ?_ (show 5 < N by omega)).trans ?_
    · intro k hk hq
      show decorrelate_Has_s3 N _ _ _ = _
      unfold decorrelate_Has_s3
      have e : ((ofB b).getD k ((0, 0, 0, ()), (0, 0, 0, ()), ())) = (ofB b).getD k s0 := rfl
      have e2 : L.getD k (0, 0, 0, ()) = L.getD k v0 := rfl
      have hk5 : ((k : Nat) : Int) < ((5 : Nat) : Int) := by omega
      have hr : inR (k : Int) 5 = true := inR_of (by omega) hk5
      have hd : decide (((k : Nat) : Int) < (5 : Int)) = true := dpos (by omega)
      simp (disch := omega) only [hd, hr, dpos, dneg, w64_of, inR_of, room_of, tmod_of, cond_true, cond_false, Bool.and_self, Bool.and_true, Bool.true_and, Bool.and_false, Bool.false_and, Bool.not_true, Bool.not_false, Option.bind_some, List.length_cons, List.length_nil, Nat.zero_add, Int.toNat_natCast, e, e2, side_has N hN, hv k hk, hq, Int.natCast_add, Int.natCast_one]
    · intro k hk hq
      show decorrelate_Has_s3 N _ _ _ = _
      unfold decorrelate_Has_s3
      have e : ((ofB b).getD k ((0, 0, 0, ()), (0, 0, 0, ()), ())) = (ofB b).getD k s0 := rfl
      have e2 : L.getD k (0, 0, 0, ()) = L.getD k v0 := rfl
      have hk5 : ((k : Nat) : Int) < ((5 : Nat) : Int) := by omega
      have hr : inR (k : Int) 5 = true := inR_of (by omega) hk5
      have hd : decide (((k : Nat) : Int) < (5 : Int)) = true := dpos (by omega)
      simp (disch := omega) only [hd, hr, dpos, dneg, w64_of, inR_of, room_of, tmod_of, cond_true, cond_false, Bool.and_self, Bool.and_true, Bool.true_and, Bool.and_false, Bool.false_and, Bool.not_true, Bool.not_false, Option.bind_some, List.length_cons, List.length_nil, Nat.zero_add, Int.toNat_natCast, e, e2, side_has N hN, hv k hk, hq, Int.natCast_add, Int.natCast_one]
    · show decorrelate_Has_s3 N _ _ _ = _
      unfold decorrelate_Has_s3
      rfl
    · have hall : allB (fun k => inS ((ofB b).getD k s0) (pt q k)) 5 = hasP (ofB b) (pt q) := by
        rw [Bool.eq_iff_iff, allB_iff, hasP_iff]
        constructor
        · intro h k hk; exact (inS_iff _ _).1 (h k hk)
        · intro h k hk; exact (inS_iff _ _).2 (h k hk)
      rw [hall]
      cases hasP (ofB b) (pt q) <;> rfl
  unfold decorrelate_Has hasB
  cases o
  · exact key (turn p false) (turn_pok hp false)
  · exact key (turn p true) (turn_pok hp true)
theorem rinside_ok (N : Nat) (hN : 4611686018427387904 ≤ N) {a b : Bx} (ha : BOk a) (hb : BOk b) : ref20_Inside N a b = decorrelate_Inside N a b := by
  unfold ref20_Inside decorrelate_Inside
  rw [rmeet_ok N hN ha hb, meet_ok N a b hN]
  rfl
theorem inside_some (N : Nat) (hN : 4611686018427387904 ≤ N) (a b : Bx) : ∃ v, decorrelate_Inside N a b = some ((v, ()), ()) := by
  unfold decorrelate_Inside
  rw [meet_ok N a b hN]
  simp only [Option.bind_some]
  cases okL (ofB a) (ofB b)
  · exact ⟨_, rfl⟩
  · exact ⟨_, rfl⟩
theorem ports_chk (N : Nat) {x y : Int} (h1 : -1 ≤ x) (h2 : x ≤ y) (h3 : y ≤ 65535) : ref19_ports N [x, y] = some ((true, ()), ()) := by
  unfold ref19_ports
  simp only [List.getD_cons_zero, List.getD_cons_succ]
  simp (disch := omega) only [dpos, dneg, w64_of, inR_of, room_of, tmod_of, cond_true, cond_false, Bool.and_self, Bool.and_true, Bool.true_and, Bool.and_false, Bool.false_and, Bool.not_true, Bool.not_false, Option.bind_some, List.length_cons, List.length_nil, Nat.zero_add]
theorem checkbox_ok (N : Nat) (hN : 4611686018427387904 ≤ N) {b : Bx} (hb : BOk b) : ref19_CheckBox N b = some ((0, ()), ()) := by
  obtain ⟨f, hf, nb, _⟩ := bok_np hb
  have hfam := fam_of nb
  obtain ⟨g, hg, s1, s2⟩ := hb.fam
  have hv1 := valid_ok N hg s1.1
  have hv2 := valid_ok N hg s1.2.1
  have hv3 := valid_ok N hg s2.1
  have hv4 := valid_ok N hg s2.2.1
  obtain ⟨M, rfl⟩ : ∃ M, N = M + 6 := ⟨N - 6, by omega⟩
  obtain ⟨p1, p2, p3⟩ := hb.proto
  obtain ⟨x, y, e1, x1, x2, x3⟩ := hb.lport
  obtain ⟨u, v, e2, u1, u2, u3⟩ := hb.rport
  have r0 := (nb.rng 0 (by omega)).2.1
  have r1 := (nb.rng 1 (by omega)).2.1
  have f1 : b.2.1.1 = b.1.1 := by rw [hfam.1, hfam.2.1]
  have f2 : b.2.2.1.1 = b.1.1 := by rw [hfam.1, hfam.2.2.1]
  have f3 : b.2.2.2.1.1 = b.1.1 := by rw [hfam.1, hfam.2.2.2]
  have l1 : ¬ vk b.2.1 < vk b.1 := by have : vk b.1 ≤ vk b.2.1 := r0; omega
  have l2 : ¬ vk b.2.2.2.1 < vk b.2.2.1 := by have : vk b.2.2.1 ≤ vk b.2.2.2.1 := r1; omega
  unfold ref19_CheckBox ref19_CheckBox_1
  have st : ∀ (k : Nat) (w : V), k < 4 → ([b.1, b.2.1, b.2.2.1, b.2.2.2.1] : List V).getD k v0 = w → ref05_Valid (M + 6) w = some ((true, ()), ()) → w.1 = b.1.1 →
      ref19_CheckBox_s2 (M + 6) (k : Int) b [b.1, b.2.1, b.2.2.1, b.2.2.2.1] = some (.go ((((k + 1 : Nat) : Int), ()), (b, [b.1, b.2.1, b.2.2.1, b.2.2.2.1], ()))) := by
    intro k w hk hw hv hf
    unfold ref19_CheckBox_s2
    have e : ([b.1, b.2.1, b.2.2.1, b.2.2.2.1] : List V).getD k (0, 0, 0, ()) = w := hw
    have e0 : ([b.1, b.2.1, b.2.2.1, b.2.2.2.1] : List V).getD 0 (0, 0, 0, ()) = b.1 := rfl
    have hl : ([b.1, b.2.1, b.2.2.1, b.2.2.2.1] : List V).length = 4 := rfl
    have hk4 : ((k : Nat) : Int) < ((4 : Nat) : Int) := by omega
    have hr : inR (k : Int) 4 = true := inR_of (by omega) hk4
    have hr0 : inR (0 : Int) 4 = true := rfl
    have hd : decide (((k : Nat) : Int) < (4 : Int)) = true := dpos (by omega)
    simp (disch := omega) only [hd, hl, hr, hr0, cond_true, cond_false, Int.toNat_natCast, e, e0, hv, hf, Option.bind_some, decide_true, Bool.not_true, w64_of, Int.natCast_add, Int.natCast_one]
  refine (loopK_run (fun k : Nat => (((k : Int), ()), (b, [b.1, b.2.1, b.2.2.1, b.2.2.2.1], ()))) (n := 4) ?_ (e := ((), (b, [b.1, b.2.1, b.2.2.1, b.2.2.2.1], ()))) ?_ (by omega)).trans ?_
  · intro k hk
    have : k = 0 ∨ k = 1 ∨ k = 2 ∨ k = 3 := by omega
    rcases this with rfl | rfl | rfl | rfl
    · exact st 0 _ (by omega) rfl hv1 rfl
    · exact st 1 _ (by omega) rfl hv2 f1
    · exact st 2 _ (by omega) rfl hv3 f2
    · exact st 3 _ (by omega) rfl hv4 f3
  · rfl
  · unfold ref19_CheckBox_3
    simp only [List.getD_cons_zero, List.getD_cons_succ, less_ok]
    rw [dneg l1, dneg l2, e1, e2]
    simp (disch := omega) only [dpos, dneg, w64_of, inR_of, room_of, tmod_of, cond_true, cond_false, Bool.and_self, Bool.and_true, Bool.true_and, Bool.and_false, Bool.false_and, Bool.not_true, Bool.not_false, Option.bind_some, List.length_cons, List.length_nil, Nat.zero_add, ports_chk]
theorem checkbox_0 (N : Nat) (hN : 4611686018427387904 ≤ N) : ref19_CheckBox N b0 = some ((15, ()), ()) := by
  obtain ⟨M, rfl⟩ : ∃ M, N = M + 6 := ⟨N - 6, by omega⟩
  rfl
end Go.Proofs.Ytgbkkfpheahdfaa.Pl

/- Plain: the packets at the corners of boxes (ref20.Corners): how many, and of what kind; packets that are made. -/
namespace Go.Proofs.Ytgbkkfpheahdfaa.Pl
open Go
abbrev Rl := Int × (List UInt8 × (List Bx × Unit))
theorem mport_ok (N : Nat) {c : List UInt8 × (Int × Unit)} (hc : COk c) : ∃ v c', make_Codes_port N c = some ((v, ()), (c', ())) ∧ COk c' ∧ 0 ≤ v ∧ v ≤ 65535 := by
  unfold make_Codes_port
  obtain ⟨u, c1, e1, u0, u1, k1⟩ := next_ok N (n := 5) hc (by omega)
  obtain ⟨z, c2, e2, z0, z1, k2⟩ := next_ok N (n := 6) k1 (by omega)
  rw [e1]
  simp only [Option.bind_some]
  rw [inR_of u0 (by simpa using u1), cond_true, e2]
  have hx : ∀ x : Int, x = ([(0 : Int), (80 : Int), (443 : Int), (65530 : Int), (1 : Int)] : List Int).getD u.toNat 0 → 0 ≤ x ∧ x ≤ 65530 := by
    rintro x rfl
    have : u.toNat = 0 ∨ u.toNat = 1 ∨ u.toNat = 2 ∨ u.toNat = 3 ∨ u.toNat = 4 := by omega
    rcases this with h | h | h | h | h <;> rw [h] <;> decide
  obtain ⟨x0, x1⟩ := hx _ rfl
  refine ⟨_, _, rfl, k2, ?_, ?_⟩ <;> simp only <;> rw [w64_of (by omega) (by omega)] <;> omega
theorem packet_ok (N : Nat) {c : List UInt8 × (Int × Unit)} (hc : COk c) : ∃ p c', make_Codes_Packet N c = some ((p, ()), (c', ())) ∧ COk c' ∧ POk p := by
  unfold make_Codes_Packet
  obtain ⟨v, c1, e1, v0, v1, k1⟩ := next_ok N (n := 4) hc (by omega)
  rw [e1]
  simp only [Option.bind_some]
  have key : ∀ (f : Int) t, ∃ p c', make_Codes_Packet_1 N f c1 t = some ((p, ()), (c', ())) ∧ COk c' ∧ POk p := by
    intro f t
    unfold make_Codes_Packet_1
    obtain ⟨a, c2, e2, k2, _⟩ := address_ok N f k1
    obtain ⟨b, c3, e3, k3, _⟩ := address_ok N f k2
    obtain ⟨u, c4, e4, u0, u1, k4⟩ := next_ok N (n := 8) k3 (by omega)
    obtain ⟨w, c5, e5, w0, w1, k5⟩ := next_ok N (n := 4) k4 (by omega)
    rw [e2]; simp only [Option.bind_some]
    rw [e3]; simp only [Option.bind_some]
    rw [e4]; simp only [Option.bind_some]
    rw [inR_of u0 (by simpa using u1), cond_true, e5]
    simp only [Option.bind_some]
    have hx : ∀ x : Int, x = ([(6 : Int), (17 : Int), (1 : Int), (58 : Int), (0 : Int), (255 : Int), (8 : Int), (3 : Int)] : List Int).getD u.toNat 0 → 0 ≤ x ∧ x ≤ 255 := by
      rintro x rfl
      have : u.toNat = 0 ∨ u.toNat = 1 ∨ u.toNat = 2 ∨ u.toNat = 3 ∨ u.toNat = 4 ∨ u.toNat = 5 ∨ u.toNat = 6 ∨ u.toNat = 7 := by omega
      rcases this with h | h | h | h | h | h | h | h <;> rw [h] <;> decide
    obtain ⟨x0, x1⟩ := hx _ rfl
    by_cases h0 : w = 0
    · rw [dpos h0]
      exact ⟨_, _, rfl, k5, ⟨by simp only; omega, by simp only; omega⟩, ⟨by simp only; omega, by simp only; omega⟩, ⟨by simp only; omega, by simp only; omega⟩⟩
    by_cases h1 : w = 1
    · rw [dneg h0, dpos h1]
      obtain ⟨y, c6, e6, k6, y0, y1⟩ := mport_ok N k5
      rw [e6]
      exact ⟨_, _, rfl, k6, ⟨by simp only; omega, by simp only; omega⟩, ⟨by simp only; omega, by simp only; omega⟩, ⟨by simp only; omega, by simp only; omega⟩⟩
    · rw [dneg h0, dneg h1]
      obtain ⟨y, c6, e6, k6, y0, y1⟩ := mport_ok N k5
      obtain ⟨z, c7, e7, k7, z0, z1⟩ := mport_ok N k6
      rw [e6]
      simp only [cond_false, Option.bind_some]
      rw [e7]
      exact ⟨_, _, rfl, k7, ⟨by simp only; omega, by simp only; omega⟩, ⟨by simp only; omega, by simp only; omega⟩, ⟨by simp only; omega, by simp only; omega⟩⟩
  by_cases h3 : v = 3
  · rw [dpos h3]; exact key 6 ((0, 0, 0, ()), (0, 0, 0, ()), 0, 0, 0, ())
  · rw [dneg h3]; exact key 4 ((0, 0, 0, ()), (0, 0, 0, ()), 0, 0, 0, ())
/-- The points that matter of range k. -/
def endsL (lo hi first last : V) : List V := [lo, hi] ++ (if lo = first then [] else [ahead lo]) ++ (if hi = last then [] else [behind hi])
theorem endsL_len (lo hi first last : V) : 2 ≤ (endsL lo hi first last).length ∧ (endsL lo hi first last).length ≤ 4 := by
  unfold endsL
  split <;> split <;> simp
theorem ends_1 (N : Nat) (lo hi first last : V) : ref20_ends_1 N lo hi [lo, hi] first last = some ((), (endsL lo hi first last, ())) := by
  unfold ref20_ends_1 ref20_ends_2 endsL
  rw [dqV, dqV]
  by_cases h1 : lo = first <;> by_cases h2 : hi = last <;> simp (disch := omega) only [dpos, dneg, h1, h2, not_false_eq_true, if_true, if_false, dpos, dneg, w64_of, inR_of, room_of, tmod_of, cond_true, cond_false, Bool.and_self, Bool.and_true, Bool.true_and, Bool.and_false, Bool.false_and, Bool.not_true, Bool.not_false, Option.bind_some, List.length_cons, List.length_nil, Nat.zero_add, back_ok, on_ok, List.append_nil, List.length_append] <;> rfl
theorem number_r (N : Nat) (n : Int) : ref20_number N n = some ((nv n, ()), ()) := rfl
theorem all_some (N : Nat) (hN : 4611686018427387904 ≤ N) {f : Int} (hf : f = 4 ∨ f = 6) : ∃ lo hi, ref18_All N f = some ((lo, hi, ()), ()) := by
  unfold ref18_All
  obtain ⟨lo, hi, e, hp, hs⟩ := prefix_ok N (a := (f, 0, 0, ())) (n := 0) hf ⟨rfl, fun _ => ⟨rfl, by show (0 : UInt64).toNat < _; decide⟩⟩ (by omega) (by omega) hN
  rw [hp]
  exact ⟨_, _, rfl⟩
theorem ends_addr (N : Nat) (hN : 4611686018427387904 ≤ N) {b : Bx} (hb : BOk b) {k : Nat} (hk : k < 2) : ∃ l, ref20_ends N b (k : Int) = some ((), (l, ())) ∧ 2 ≤ l.length ∧ l.length ≤ 4 := by
  obtain ⟨f, hf, nb, _⟩ := bok_np hb
  have hfam := fam_of nb
  unfold ref20_ends
  rw [low_ok N b (show k < 5 by omega), high_ok N b (show k < 5 by omega), number_r, number_r]
  simp only [Option.bind_some]
  obtain ⟨lo, hi, e⟩ := all_some N hN hf
  have : k = 0 ∨ k = 1 := by omega
  rcases this with rfl | rfl
  · have e1 : ((ofB b).getD 0 s0).1.1 = f := hfam.1
    rw [e1, e]
    exact ⟨_, ends_1 N _ _ _ _, (endsL_len _ _ _ _).1, (endsL_len _ _ _ _).2⟩
  · have e1 : ((ofB b).getD 1 s0).1.1 = f := hfam.2.2.1
    rw [e1, e]
    exact ⟨_, ends_1 N _ _ _ _, (endsL_len _ _ _ _).1, (endsL_len _ _ _ _).2⟩
theorem endsL_rng {f : Int} {k : Nat} (hk : k < 5) {s : Sd} (h : NS f k s) {first last : V} (h1 : vk first = bg f k) (h2 : vk last = nd f k) : ∀ v ∈ endsL s.1 s.2.1 first last, bg f k ≤ vk v ∧ vk v ≤ nd f k := by
  obtain ⟨r1, r2, r3⟩ := h
  intro v hv
  unfold endsL at hv
  rcases List.mem_append.1 hv with hv | hv
  · rcases List.mem_append.1 hv with hv | hv
    · simp only [List.mem_cons, List.not_mem_nil, or_false] at hv
      rcases hv with rfl | rfl <;> omega
    · split at hv
      · cases hv
      · rename_i hne
        obtain rfl := List.mem_singleton.1 hv
        have : vk s.1 ≠ vk first := fun e => hne (vk_inj e)
        rw [ahead_of (f := f) hk (by omega) (by omega)]; omega
  · split at hv
    · cases hv
    · rename_i hne
      obtain rfl := List.mem_singleton.1 hv
      have : vk s.2.1 ≠ vk last := fun e => hne (vk_inj e)
      rw [behind_of (f := f) hk (by omega) (by omega)]; omega
theorem ends_num (N : Nat) {b : Bx} (hb : BOk b) {k : Nat} (h2 : 2 ≤ k) (hk : k < 5) : ∃ l, ref20_ends N b (k : Int) = some ((), (l, ())) ∧ 2 ≤ l.length ∧ l.length ≤ 4 ∧ ∀ v ∈ l, -1 ≤ nm v ∧ nm v ≤ 65535 := by
  obtain ⟨f, hf, nb, _⟩ := bok_np hb
  unfold ref20_ends
  rw [low_ok N b hk, high_ok N b hk, number_r, number_r]
  simp only [Option.bind_some]
  have fin : ∀ first last : V, vk first = bg f k → vk last = nd f k → ∀ v ∈ endsL ((ofB b).getD k s0).1 ((ofB b).getD k s0).2.1 first last, -1 ≤ nm v ∧ nm v ≤ 65535 := by
    intro first last h1 h2' v hv
    obtain ⟨q1, q2⟩ := endsL_rng hk (nb.rng k hk) h1 h2' v hv
    have hb0 : 0 ≤ bg f k ∧ nd f k ≤ 65536 := by
      unfold bg nd
      have : k = 2 ∨ k = 3 ∨ k = 4 := by omega
      rcases this with rfl | rfl | rfl <;> simp
    rw [nm_vk (by omega) (by omega)]
    omega
  have h3 : k = 2 ∨ k = 3 ∨ k = 4 := by omega
  rcases h3 with rfl | rfl | rfl
  · exact ⟨_, ends_1 N _ _ _ _, (endsL_len _ _ _ _).1, (endsL_len _ _ _ _).2, fin _ _ (vk_nv (by omega) (by omega)) (vk_nv (by omega) (by omega))⟩
  · exact ⟨_, ends_1 N _ _ _ _, (endsL_len _ _ _ _).1, (endsL_len _ _ _ _).2, fin _ _ (vk_nv (by omega) (by omega)) (vk_nv (by omega) (by omega))⟩
  · exact ⟨_, ends_1 N _ _ _ _, (endsL_len _ _ _ _).1, (endsL_len _ _ _ _).2, fin _ _ (vk_nv (by omega) (by omega)) (vk_nv (by omega) (by omega))⟩
/-- Packets so far. -/
def PsOk (M : Nat) (out : List Pk) : Prop := (∀ p ∈ out, POk p) ∧ out.length ≤ M
theorem tdivN (a b : Nat) : ((a : Int)).tdiv (b : Int) = ((a / b : Nat) : Int) := by rw [Int.tdiv_eq_ediv_of_nonneg (by omega)]; exact (Int.natCast_ediv a b).symm
theorem tmodN (a b : Nat) : ((a : Int)).tmod (b : Int) = ((a % b : Nat) : Int) := by rw [Int.tmod_eq_emod_of_nonneg (by omega)]; exact (Int.natCast_emod a b).symm
theorem mulN (a b : Nat) : (a : Int) * (b : Int) = ((a * b : Nat) : Int) := (Int.natCast_mul a b).symm
theorem w64N {k : Nat} (h : k ≤ 1000000000) : w64 (k : Int) = (k : Int) := w64_of (by omega) (by omega)
theorem inRN {i n : Nat} (h : i < n) : inR (i : Int) n = true := inR_of (by omega) (by omega)
theorem getD_mem {α : Type} {l : List α} {i : Nat} (h : i < l.length) (d : α) : l.getD i d ∈ l := by
  rw [List.getD_eq_getElem?_getD, List.getElem?_eq_getElem h]; exact List.getElem_mem h
section
variable (N : Nat) (hN : 4611686018427387904 ≤ N) {M : Nat} (hM : M ≤ 100000)
include hN hM
theorem corners_in (l : List Rl) (i j : Int) (j0 : 0 ≤ j) (j1 : j ≤ 1000000) {v w x y z : List V} (hv : 2 ≤ v.length ∧ v.length ≤ 4) (hw : 2 ≤ w.length ∧ w.length ≤ 4) (hx : 2 ≤ x.length ∧ x.length ≤ 4) (hy : 2 ≤ y.length ∧ y.length ≤ 4) (hz : 2 ≤ z.length ∧ z.length ≤ 4)
    (gx : ∀ u ∈ x, -1 ≤ nm u ∧ nm u ≤ 65535) (gy : ∀ u ∈ y, -1 ≤ nm u ∧ nm u ≤ 65535) (gz : ∀ u ∈ z, -1 ≤ nm u ∧ nm u ≤ 65535) {out : List Pk} (ho : PsOk M out) :
    ∃ r, ref20_Corners_11 N l (M : Int) i j 0 out v w x y z = some r ∧ ((∃ o', PsOk M o' ∧ r = .go ((l, (M : Int), i, j + 1, ()), (o', ()))) ∨ (∃ o', PsOk M o' ∧ r = .rt (.rt ((), (o', ()))))) := by
  have hvw : v.length * w.length ≤ 4 * 4 := Nat.mul_le_mul hv.2 hw.2
  have hvwx : v.length * w.length * x.length ≤ 4 * 4 * 4 := Nat.mul_le_mul hvw hx.2
  have hvwxy : v.length * w.length * x.length * y.length ≤ 4 * 4 * 4 * 4 := Nat.mul_le_mul hvwx hy.2
  have hall : v.length * w.length * x.length * y.length * z.length ≤ 4 * 4 * 4 * 4 * 4 := Nat.mul_le_mul hvwxy hz.2
  have ew : w64 ((w64 ((w64 ((w64 ((v.length : Int) * (w.length : Int))) * (x.length : Int))) * (y.length : Int))) * (z.length : Int)) = ((v.length * w.length * x.length * y.length * z.length : Nat) : Int) := by
    rw [mulN v.length w.length, w64_of (x := ((v.length * w.length : Nat) : Int)) (by omega) (by omega), mulN, w64_of (x := ((v.length * w.length * x.length : Nat) : Int)) (by omega) (by omega), mulN, w64_of (x := ((v.length * w.length * x.length * y.length : Nat) : Int)) (by omega) (by omega), mulN, w64_of (by omega) (by omega)]
  unfold ref20_Corners_11
  refine loopK_of (N := N) (I := fun s => ∃ (n : Nat) (o : List Pk), s = ((l, (M : Int), i, j, (n : Int), ()), (o, v, w, x, y, z, ())) ∧ n ≤ 1024 ∧ PsOk M o) (μ := fun s => (1024 - s.1.2.2.2.2.1).toNat) _ ?_ ⟨0, out, rfl, by omega, ho⟩ (by simp only; omega)
  rintro _ ⟨n, o, rfl, hn, ho⟩
  show ∃ r, ref20_Corners_s12 N l (M : Int) i j (n : Int) o v w x y z = some r ∧ _
  unfold ref20_Corners_s12
  rw [ew]
  by_cases hlt : n < v.length * w.length * x.length * y.length * z.length
  · rw [dpos (by omega), cond_true]
    by_cases hm : (M : Int) ≤ (o.length : Int)
    · rw [dpos hm]
      exact ⟨_, rfl, .inr ⟨o, ho, rfl⟩⟩
    · rw [dneg hm, cond_false]
      have n1 : n / z.length < v.length * w.length * x.length * y.length := Nat.div_lt_of_lt_mul (by rw [Nat.mul_comm]; exact hlt)
      have n2 : n / z.length / y.length < v.length * w.length * x.length := Nat.div_lt_of_lt_mul (by rw [Nat.mul_comm]; exact n1)
      have n3 : n / z.length / y.length / x.length < v.length * w.length := Nat.div_lt_of_lt_mul (by rw [Nat.mul_comm]; exact n2)
      have n4 : n / z.length / y.length / x.length / w.length < v.length := Nat.div_lt_of_lt_mul (by rw [Nat.mul_comm]; exact n3)
      have m0 : n % z.length < z.length := Nat.mod_lt _ (by omega)
      have m1 : n / z.length % y.length < y.length := Nat.mod_lt _ (by omega)
      have m2 : n / z.length / y.length % x.length < x.length := Nat.mod_lt _ (by omega)
      have m3 : n / z.length / y.length / x.length % w.length < w.length := Nat.mod_lt _ (by omega)
      have w1 : w64 ((n / z.length : Nat) : Int) = ((n / z.length : Nat) : Int) := w64N (by omega)
      have w2 : w64 ((n / z.length / y.length : Nat) : Int) = ((n / z.length / y.length : Nat) : Int) := w64N (by omega)
      have w3 : w64 ((n / z.length / y.length / x.length : Nat) : Int) = ((n / z.length / y.length / x.length : Nat) : Int) := w64N (by omega)
      have w4 : w64 ((n / z.length / y.length / x.length / w.length : Nat) : Int) = ((n / z.length / y.length / x.length / w.length : Nat) : Int) := w64N (by omega)
      have z1 : ¬ ((z.length : Int) = 0) := by omega
      have z2 : ¬ ((y.length : Int) = 0) := by omega
      have z3 : ¬ ((x.length : Int) = 0) := by omega
      have z4 : ¬ ((w.length : Int) = 0) := by omega
      have i0 : inR ((n % z.length : Nat) : Int) z.length = true := inRN (by omega)
      have i1 : inR ((n / z.length % y.length : Nat) : Int) y.length = true := inRN (by omega)
      have i2 : inR ((n / z.length / y.length % x.length : Nat) : Int) x.length = true := inRN (by omega)
      have i3 : inR ((n / z.length / y.length / x.length / w.length : Nat) : Int) v.length = true := inRN (by omega)
      have i4 : inR ((n / z.length / y.length / x.length % w.length : Nat) : Int) w.length = true := inRN (by omega)
      have hr : ∀ q : Pk, room (o.length + ([q] : List Pk).length) 72 = true := fun q => room_of (by have := ho.2; simp only [List.length_cons, List.length_nil]; omega)
      simp only [tmodN, tdivN, dneg z1, dneg z2, dneg z3, dneg z4, Bool.not_false, cond_true, w1, w2, w3, w4, i0, i1, i2, i3, i4, hr, Int.toNat_natCast]
      refine ⟨_, rfl, ⟨n + 1, _, by rw [w64_of (by omega) (by omega)]; rfl, by omega, ?_, ?_⟩, by simp only; rw [w64_of (by omega) (by omega)]; omega⟩
      · intro q hq
        rcases List.mem_append.1 hq with hq | hq
        · exact ho.1 q hq
        · obtain rfl := List.mem_singleton.1 hq
          exact ⟨gx _ (getD_mem m2 _), gy _ (getD_mem m1 _), gz _ (getD_mem m0 _)⟩
      · have := ho.2; simp only [List.length_append, List.length_cons, List.length_nil]; omega
  · rw [dneg (by omega), cond_false]
    refine ⟨_, rfl, _, rfl, .inl ⟨o, ho, ?_⟩⟩
    have hw : w64 (j + 1) = j + 1 := w64_of (by omega) (by omega)
    show Lo.go ((l, (M : Int), i, w64 (j + 1), ()), (o, ())) = _
    rw [hw]
theorem corners_mid (l : List Rl) {i : Nat} (hi : i < l.length) (hl : l.length ≤ 100000) {B : List Bx} (hB : (l.getD i (0, [], [], ())).2.2.1 = B) (hb : ∀ b ∈ B, BOk b) (hlen : B.length ≤ 100000) {out : List Pk} (ho : PsOk M out) :
    ∃ r, ref20_Corners_6 N l (M : Int) (i : Int) 0 out = some r ∧ ((∃ o', PsOk M o' ∧ r = .go ((l, (M : Int), (i : Int) + 1, ()), (o', ()))) ∨ (∃ o', PsOk M o' ∧ r = .rt ((), (o', ())))) := by
  unfold ref20_Corners_6
  refine loopK_of (N := N) (I := fun s => ∃ (j : Nat) (o : List Pk), s = ((l, (M : Int), (i : Int), (j : Int), ()), (o, ())) ∧ j ≤ B.length ∧ PsOk M o) (μ := fun s => ((B.length : Int) - s.1.2.2.2.1).toNat) _ ?_ ⟨0, out, rfl, by omega, ho⟩ (by simp only; omega)
  rintro _ ⟨j, o, rfl, hj, ho⟩
  show ∃ r, ref20_Corners_s7 N l (M : Int) (i : Int) (j : Int) o = some r ∧ _
  unfold ref20_Corners_s7 ref20_Corners_8 ref20_Corners_10
  have ir : inR (i : Int) l.length = true := inR_of (by omega) (by omega)
  simp only [ir, cond_true, Int.toNat_natCast, hB]
  by_cases hlt : j < B.length
  · have jr : inR (j : Int) B.length = true := inR_of (by omega) (by omega)
    rw [dpos (by omega), jr]
    simp only [cond_true]
    have hbx := hb _ (getD_mem hlt ((0, 0, 0, ()), (0, 0, 0, ()), (0, 0, 0, ()), (0, 0, 0, ()), 0, 0, List.replicate 2 0, List.replicate 2 0, ()))
    generalize B.getD j ((0, 0, 0, ()), (0, 0, 0, ()), (0, 0, 0, ()), (0, 0, 0, ()), 0, 0, List.replicate 2 0, List.replicate 2 0, ()) = b at *
    obtain ⟨v, ev, hv⟩ := ends_addr N hN hbx (k := 0) (by omega)
    obtain ⟨w, ewd, hw⟩ := ends_addr N hN hbx (k := 1) (by omega)
    obtain ⟨x, ex, hx, hx', gx⟩ := ends_num N hbx (k := 2) (by omega) (by omega)
    obtain ⟨y, ey, hy, hy', gy⟩ := ends_num N hbx (k := 3) (by omega) (by omega)
    obtain ⟨z, ez, hz, hz', gz⟩ := ends_num N hbx (k := 4) (by omega) (by omega)
    have ev' : ref20_ends N b 0 = _ := ev
    have ew' : ref20_ends N b 1 = _ := ewd
    have ex' : ref20_ends N b 2 = _ := ex
    have ey' : ref20_ends N b 3 = _ := ey
    have ez' : ref20_ends N b 4 = _ := ez
    rw [ev', Option.bind_some, ew', Option.bind_some, ex', Option.bind_some, ey', Option.bind_some, ez', Option.bind_some]
    obtain ⟨r, hr, hq⟩ := corners_in N hN hM l (i : Int) (j : Int) (by omega) (by omega) hv hw ⟨hx, hx'⟩ ⟨hy, hy'⟩ ⟨hz, hz'⟩ gx gy gz ho
    refine ⟨r, hr, ?_⟩
    rcases hq with ⟨o', ho', rfl⟩ | ⟨o', ho', rfl⟩
    · exact ⟨⟨j + 1, o', rfl, by omega, ho'⟩, by simp only; omega⟩
    · exact .inr ⟨o', ho', rfl⟩
  · rw [dneg (by omega)]
    refine ⟨_, rfl, _, rfl, .inl ⟨o, ho, ?_⟩⟩
    have hw : w64 ((i : Int) + 1) = (i : Int) + 1 := w64_of (by omega) (by omega)
    show Lo.go ((l, (M : Int), w64 ((i : Int) + 1), ()), (o, ())) = _
    rw [hw]
theorem corners_ok (l : List Rl) (hl : l.length ≤ 100000) (hb : ∀ r ∈ l, r.2.2.1.length ≤ 100000 ∧ ∀ b ∈ r.2.2.1, BOk b) : ∃ o, ref20_Corners N l (M : Int) = some ((), (o, ())) ∧ PsOk M o := by
  unfold ref20_Corners ref20_Corners_1
  have := loopK_of (N := N) (step := fun y => ref20_Corners_s2 N y.1.1 y.1.2.1 y.1.2.2.1 y.2.1) (J := fun (e : ((Unit) × ((List Pk) × Unit))) => ref20_Corners_15 N e.2.1) (I := fun s => ∃ (i : Nat) (o : List Pk), s = ((l, (M : Int), (i : Int), ()), (o, ())) ∧ i ≤ l.length ∧ PsOk M o) (μ := fun s => ((l.length : Int) - s.1.2.2.1).toNat)
    (T := fun r => ∃ o, r = ((), (o, ())) ∧ PsOk M o) ?_ (x := ((l, (M : Int), 0, ()), ([], ()))) ⟨0, [], rfl, by omega, by simp [PsOk]⟩ (by simp only; omega)
  · obtain ⟨r, h1, o, rfl, h2⟩ := this
    exact ⟨o, h1, h2⟩
  · rintro _ ⟨i, o, rfl, hi, ho⟩
    show ∃ r, ref20_Corners_s2 N l (M : Int) (i : Int) o = some r ∧ _
    unfold ref20_Corners_s2 ref20_Corners_3 ref20_Corners_5
    by_cases hlt : i < l.length
    · rw [dpos (by omega), cond_true]
      have hbx := hb _ (getD_mem hlt (0, [], [], ()))
      obtain ⟨r, hr, hq⟩ := corners_mid N hN hM l hlt hl rfl hbx.2 hbx.1 ho
      refine ⟨r, hr, ?_⟩
      rcases hq with ⟨o', ho', rfl⟩ | ⟨o', ho', rfl⟩
      · exact ⟨⟨i + 1, o', rfl, by omega, ho'⟩, by simp only; omega⟩
      · exact ⟨o', rfl, ho'⟩
    · rw [dneg (by omega)]
      exact ⟨_, rfl, _, rfl, o, rfl, ho⟩
end
end Go.Proofs.Ytgbkkfpheahdfaa.Pl

/- Plain: rules are made. -/
namespace Go.Proofs.Ytgbkkfpheahdfaa.Pl
open Go
def goodN (s : List UInt8) : Prop := s = [103, 111, 108, 100] ∨ s = [115, 105, 108, 118, 101, 114] ∨ s = [120, 49]
structure RlOk (r : Rl) : Prop where
  len : r.2.2.1.length ≤ 2
  pos : 1 ≤ r.2.2.1.length
  act : 0 ≤ r.1 ∧ r.1 ≤ 2
  tpl : (r.1 = 2 → goodN r.2.1) ∧ (r.1 ≠ 2 → r.2.1 = [])
  box : ∀ b ∈ r.2.2.1, BOk b
  nm : r.2.1.length ≤ 6
def LRok (m : Nat) (l : List Rl) : Prop := l.length ≤ m ∧ ∀ r ∈ l, RlOk r
abbrev Cd := List UInt8 × (Int × Unit)
section
variable (N : Nat) (hN : 4611686018427387904 ≤ N)
include hN
theorem rules_7 {c : Cd} (hc : COk c) (n k : Int) (k0 : 1 ≤ k) (k2 : k ≤ 2) {out : List Rl} (ho : out.length ≤ 1000) (r : Rl) : ∃ c' v, make_Codes_Rules_7 N n k c out r [] = some (.go ((w64 (n - 1), ()), (c', out ++ [(r.1, r.2.1, v, ())], ()))) ∧ COk c' ∧ v.length ≤ 2 ∧ (1 ≤ v.length) ∧ ∀ b ∈ v, BOk b := by
  unfold make_Codes_Rules_7
  have := loopK_of (N := N) (step := fun y => make_Codes_Rules_s8 N y.1.1 y.1.2.1 y.2.1 y.2.2.1 y.2.2.2.1 y.2.2.2.2.1) (J := fun (e : ((Int × Unit) × (Cd × (List Rl) × Rl × (List Bx) × Unit))) => make_Codes_Rules_9 N e.1.1 e.2.1 e.2.2.1 e.2.2.2.1 e.2.2.2.2.1)
    (I := fun y => ∃ (k : Int) (c : Cd) (v : List Bx), y = ((n, k, ()), (c, out, r, v, ())) ∧ COk c ∧ 0 ≤ k ∧ k + v.length ≤ 2 ∧ 1 ≤ k + v.length ∧ ∀ b ∈ v, BOk b) (μ := fun y => y.1.2.1.toNat)
    (T := fun q => ∃ (c' : Cd) (v : List Bx), q = .go ((w64 (n - 1), ()), (c', out ++ [(r.1, r.2.1, v, ())], ())) ∧ COk c' ∧ v.length ≤ 2 ∧ (1 ≤ v.length) ∧ ∀ b ∈ v, BOk b) ?_
    (x := ((n, k, ()), (c, out, r, [], ()))) ⟨k, c, [], rfl, hc, by omega, by simpa using k2, by simpa using k0, by simp⟩ (by simp only; omega)
  · obtain ⟨q, h1, c', v, rfl, h2⟩ := this
    exact ⟨c', v, h1, h2⟩
  · rintro _ ⟨k, c, v, rfl, hc, h0, h2, h1, hv⟩
    show ∃ q, make_Codes_Rules_s8 N n k c out r v = some q ∧ _
    unfold make_Codes_Rules_s8
    by_cases hk : 0 < k
    · obtain ⟨b, c', e, hc', hb⟩ := box_ok N hc hN
      have hvl : v.length ≤ 2 := by omega
      rw [dpos hk, cond_true, e, Option.bind_some, room_of (by simp only [List.length_cons, List.length_nil]; omega), cond_true, w64_of (by omega) (by omega)]
      refine ⟨_, rfl, ⟨k - 1, c', v ++ [b], rfl, hc', by omega, ?_, ?_, ?_⟩, ?_⟩
      · rw [List.length_append]; simp only [List.length_cons, List.length_nil]; omega
      · rw [List.length_append]; simp only [List.length_cons, List.length_nil]; omega
      · intro x hx
        rcases List.mem_append.1 hx with hx | hx
        · exact hv x hx
        · obtain rfl := List.mem_singleton.1 hx; exact hb
      · simp only; omega
    · rw [dneg hk, cond_false]
      refine ⟨_, rfl, .go ((w64 (n - 1), ()), (c, out ++ [(r.1, r.2.1, v, ())], ())), ?_, c, v, rfl, hc, by omega, by omega, hv⟩
      show make_Codes_Rules_9 N n c out r v = _
      unfold make_Codes_Rules_9
      rw [room_of (by simp only [List.length_cons, List.length_nil]; omega)]; rfl
theorem rules_6 {c : Cd} (hc : COk c) (n : Int) {out : List Rl} (ho : out.length ≤ 1000) (r : Rl) : ∃ c' v, make_Codes_Rules_6 N n c out r [] = some (.go ((w64 (n - 1), ()), (c', out ++ [(r.1, r.2.1, v, ())], ()))) ∧ COk c' ∧ v.length ≤ 2 ∧ (1 ≤ v.length) ∧ ∀ b ∈ v, BOk b := by
  unfold make_Codes_Rules_6
  obtain ⟨u, c1, e, u0, u1, k1⟩ := next_ok N (n := 2) hc (by omega)
  rw [e, Option.bind_some]
  have hw : w64 (1 + u) = 1 + u := w64_of (by omega) (by omega)
  show ∃ c' v, make_Codes_Rules_7 N n (w64 (1 + u)) c1 out r [] = _ ∧ _
  rw [hw]
  exact rules_7 N hN k1 n _ (by omega) (by omega) ho r
theorem rules_ok {m : Nat} (hm : m ≤ 100) {c : Cd} (hc : COk c) : ∃ l c', make_Codes_Rules N (m : Int) c = some ((), (c', l, ())) ∧ COk c' ∧ LRok m l := by
  unfold make_Codes_Rules
  rw [w64_of (by omega) (by omega)]
  obtain ⟨u, c1, e, u0, u1, k1⟩ := next_ok N (n := (m : Int) + 1) hc (by omega)
  rw [e, Option.bind_some]
  unfold make_Codes_Rules_1
  have := loopK_of (N := N) (step := fun y => make_Codes_Rules_s2 N y.1.1 y.2.1 y.2.2.1) (J := fun (e : ((Unit) × (Cd × (List Rl) × Unit))) => make_Codes_Rules_11 N e.2.1 e.2.2.1)
    (I := fun y => ∃ (n : Int) (c : Cd) (out : List Rl), y = ((n, ()), (c, out, ())) ∧ COk c ∧ 0 ≤ n ∧ n + out.length ≤ m ∧ ∀ r ∈ out, RlOk r) (μ := fun y => y.1.1.toNat)
    (T := fun q => ∃ (c' : Cd) (l : List Rl), q = ((), (c', l, ())) ∧ COk c' ∧ LRok m l) ?_
    (x := ((u, ()), (c1, [], ()))) ⟨u, c1, [], rfl, k1, u0, by simp only [List.length_nil]; omega, by simp⟩ (by simp only; omega)
  · obtain ⟨q, h1, c', l, rfl, h2, h3⟩ := this
    exact ⟨l, c', h1, h2, h3⟩
  · rintro _ ⟨n, c, out, rfl, hc, h0, h2, hv⟩
    show ∃ q, make_Codes_Rules_s2 N n c out = some q ∧ _
    unfold make_Codes_Rules_s2
    by_cases hn : 0 < n
    · rw [dpos hn, cond_true]
      have fin : ∀ (c' : Cd) (r : Rl) (v : List Bx), COk c' → v.length ≤ 2 → 1 ≤ v.length → (∀ b ∈ v, BOk b) → (0 ≤ r.1 ∧ r.1 ≤ 2) → ((r.1 = 2 → goodN r.2.1) ∧ (r.1 ≠ 2 → r.2.1 = [])) → r.2.1.length ≤ 6 → (∃ (n' : Int) (c : Cd) (out' : List Rl), (((w64 (n - 1), ()), (c', out ++ [(r.1, r.2.1, v, ())], ())) : (Int × Unit) × (Cd × List Rl × Unit)) = ((n', ()), (c, out', ())) ∧ COk c ∧ 0 ≤ n' ∧ n' + out'.length ≤ m ∧ ∀ r ∈ out', RlOk r) ∧ (w64 (n - 1)).toNat < n.toNat := by
        intro c' r v hc' hv' hv1 hb hact htpl hr
        rw [w64_of (by omega) (by omega)]
        refine ⟨⟨n - 1, c', _, rfl, hc', by omega, ?_, ?_⟩, by omega⟩
        · rw [List.length_append]; simp only [List.length_cons, List.length_nil]; omega
        · intro x hx
          rcases List.mem_append.1 hx with hx | hx
          · exact hv x hx
          · obtain rfl := List.mem_singleton.1 hx; exact ⟨hv', hv1, hact, htpl, hb, hr⟩
      unfold make_Codes_Rules_3 make_Codes_Rules_5
      obtain ⟨a, c2, e2, a0, a1, k2⟩ := next_ok N (n := 3) hc (by omega)
      rw [e2, Option.bind_some]
      by_cases ha : a = 2
      · obtain ⟨t, c3, e3, t0, t1, k3⟩ := next_ok N (n := 3) k2 (by omega)
        rw [dpos ha, cond_true, e3, Option.bind_some, inR_of t0 (by simpa using t1), cond_true]
        have ht : ∀ L : List (List UInt8), (∀ x ∈ L, x.length ≤ 6) → (L.getD t.toNat []).length ≤ 6 := by
          intro L hL
          rcases Nat.lt_or_ge t.toNat L.length with h | h
          · rw [List.getD, List.getElem?_eq_getElem h]; exact hL _ (List.getElem_mem h)
          · rw [List.getD, List.getElem?_eq_none h]; simp
        obtain ⟨c4, v, e4, q1, q2, q4, q3⟩ := rules_6 N hN k3 n (out := out) (by omega) (a, ([[103, 111, 108, 100], [115, 105, 108, 118, 101, 114], [120, 49]] : List (List UInt8)).getD t.toNat [], [], ())
        have hg : goodN (([[103, 111, 108, 100], [115, 105, 108, 118, 101, 114], [120, 49]] : List (List UInt8)).getD t.toNat []) := by
          obtain ⟨j, rfl⟩ := Int.eq_ofNat_of_zero_le t0
          have hj : j = 0 ∨ j = 1 ∨ j = 2 := by omega
          rcases hj with rfl | rfl | rfl
          · exact .inl rfl
          · exact .inr (.inl rfl)
          · exact .inr (.inr rfl)
        exact ⟨_, e4, fin c4 _ v q1 q2 q4 q3 ⟨by simp only; omega, by simp only; omega⟩ ⟨fun _ => hg, fun h => absurd ha h⟩ (ht _ (by decide))⟩
      · rw [dneg ha, cond_false]
        obtain ⟨c4, v, e4, q1, q2, q4, q3⟩ := rules_6 N hN k2 n (out := out) (by omega) (a, [], [], ())
        exact ⟨_, e4, fin c4 _ v q1 q2 q4 q3 ⟨by simp only; omega, by simp only; omega⟩ ⟨fun h => absurd h ha, fun _ => rfl⟩ (by simp)⟩
    · rw [dneg hn, cond_false]
      exact ⟨_, rfl, _, rfl, c, out, rfl, hc, by omega, hv⟩
end
end Go.Proofs.Ytgbkkfpheahdfaa.Pl

/- Plain: which rule has a packet, and what is done with it (lookup). -/
namespace Go.Proofs.Ytgbkkfpheahdfaa.Pl
open Go
abbrev bz : Bx := ((0, 0, 0, ()), (0, 0, 0, ()), (0, 0, 0, ()), (0, 0, 0, ()), 0, 0, List.replicate 2 0, List.replicate 2 0, ())
abbrev rz : Rl := (0, [], [], ())
theorem firstAt_isSome {q : Nat → Bool} {n : Nat} : (firstAt q 0 n).isSome = true ↔ ∃ i, i < n ∧ q i = true := by
  cases h : firstAt q 0 n with
  | none =>
    rw [firstAt_none] at h
    refine ⟨fun e => (by cases e), fun ⟨i, h1, h2⟩ => ?_⟩
    rw [h i (by omega) (by omega)] at h2; cases h2
  | some i =>
    obtain ⟨h1, h2, h3, _⟩ := firstAt_some.1 h
    exact ⟨fun _ => ⟨i, by omega, h3⟩, fun _ => rfl⟩
theorem firstAt_any {α : Type} (f : α → Bool) (B : List α) (d : α) : (firstAt (fun j => f (B.getD j d)) 0 B.length).isSome = B.any f := by
  rw [Bool.eq_iff_iff, firstAt_isSome, List.any_eq_true]
  constructor
  · rintro ⟨i, h1, h2⟩
    rw [List.getD, List.getElem?_eq_getElem h1] at h2
    exact ⟨B[i], List.getElem_mem h1, h2⟩
  · rintro ⟨x, hx, h⟩
    obtain ⟨i, h1, rfl⟩ := List.getElem_of_mem hx
    refine ⟨i, h1, ?_⟩
    rw [List.getD, List.getElem?_eq_getElem h1]
    exact h
def hasR (r : Rl) (p : Pk) (o : Bool) : Bool := r.2.2.1.any fun b => hasB b p o
def ruleF (l : List Rl) (p : Pk) (o : Bool) : Option Nat := firstAt (fun i => hasR (l.getD i rz) p o) 0 l.length
def ruleV (l : List Rl) (p : Pk) (o : Bool) : Int × Bool := match ruleF l p o with
  | some i => ((i : Int), true)
  | none => (0, false)
/-- Which ports are hidden. -/
def hidV (p : Pk) : Bool × Bool := if p.2.2.1 = 6 ∨ p.2.2.1 = 17 then (decide (p.2.2.2.1 = -1), decide (p.2.2.2.2.1 = -1)) else if p.2.2.1 = 1 ∨ p.2.2.1 = 58 then (decide (p.2.2.2.1 = -1), false) else (false, false)
def lp1 (b : Bx) : Int := b.2.2.2.2.2.2.1.getD 1 0
def rp1 (b : Bx) : Int := b.2.2.2.2.2.2.2.1.getD 1 0
def cdP (b : Bx) (p : Pk) (o : Bool) : Pk := (p.1, p.2.1, p.2.2.1, (bif (hidV p).1 then (bif o then lp1 b else rp1 b) else p.2.2.2.1), (bif (hidV p).2 then (bif o then rp1 b else lp1 b) else p.2.2.2.2.1), ())
def cdV (b : Bx) (p : Pk) (o : Bool) : Bool := (!(hidV p).1 || decide (0 ≤ (cdP b p o).2.2.2.1)) && ((!(hidV p).2 || decide (0 ≤ (cdP b p o).2.2.2.2.1)) && hasB b (cdP b p o) o)
def cdR (r : Rl) (p : Pk) (o : Bool) : Bool := !(decide (r.1 = 1)) && r.2.2.1.any fun b => cdV b p o
def actF (l : List Rl) (p : Pk) (o : Bool) (m : Nat) : Option Nat := firstAt (fun i => cdR (l.getD i rz) p o) 0 m
def hid (p : Pk) : Bool := (hidV p).1 || (hidV p).2
def actE (l : List Rl) (p : Pk) (o : Bool) (m : Nat) (d : Int × Int) : Int × Int := if hid p = true then (match actF l p o m with
  | some i => (0, (i : Int))
  | none => d) else d
def actV (l : List Rl) (p : Pk) (o : Bool) : Int × Int := match ruleF l p o with
  | some r => if (l.getD r rz).1 = 1 then actE l p o r (1, (r : Int)) else ((l.getD r rz).1, (r : Int))
  | none => actE l p o l.length (0, -1)
theorem bok_lp {b : Bx} (h : BOk b) : -1 ≤ lp1 b ∧ lp1 b ≤ 65535 := by
  obtain ⟨x, y, e, h1, h2, h3⟩ := h.lport
  unfold lp1; rw [e]
  simp only [List.getD_cons_zero, List.getD_cons_succ]; omega
theorem bok_rp {b : Bx} (h : BOk b) : -1 ≤ rp1 b ∧ rp1 b ≤ 65535 := by
  obtain ⟨x, y, e, h1, h2, h3⟩ := h.rport
  unfold rp1; rw [e]
  simp only [List.getD_cons_zero, List.getD_cons_succ]; omega
theorem cdP_pok {b : Bx} (hb : BOk b) {p : Pk} (hp : POk p) (o : Bool) : POk (cdP b p o) := by
  have h1 := bok_lp hb
  have h2 := bok_rp hb
  obtain ⟨a1, a2, a3⟩ := hp
  refine ⟨a1, ?_, ?_⟩
  · show -1 ≤ (bif (hidV p).1 then (bif o then lp1 b else rp1 b) else p.2.2.2.1) ∧ (bif (hidV p).1 then (bif o then lp1 b else rp1 b) else p.2.2.2.1) ≤ 65535
    cases (hidV p).1 <;> cases o <;> first | exact a2 | exact h1 | exact h2
  · show -1 ≤ (bif (hidV p).2 then (bif o then rp1 b else lp1 b) else p.2.2.2.2.1) ∧ (bif (hidV p).2 then (bif o then rp1 b else lp1 b) else p.2.2.2.2.1) ≤ 65535
    cases (hidV p).2 <;> cases o <;> first | exact a3 | exact h1 | exact h2
theorem hidden_p (N : Nat) (p : Pk) : lookup_hidden N p = some (((hidV p).1, (hidV p).2, ()), ()) := by
  unfold lookup_hidden hidV
  by_cases h1 : p.2.2.1 = 6
  · simp only [dpos h1, cond_true, if_pos (show p.2.2.1 = 6 ∨ p.2.2.1 = 17 from .inl h1)]
  by_cases h2 : p.2.2.1 = 17
  · simp only [dneg h1, dpos h2, cond_true, cond_false, if_pos (show p.2.2.1 = 6 ∨ p.2.2.1 = 17 from .inr h2)]
  have h12 : ¬ (p.2.2.1 = 6 ∨ p.2.2.1 = 17) := by omega
  by_cases h3 : p.2.2.1 = 1
  · simp only [dneg h1, dneg h2, dpos h3, cond_true, cond_false, if_neg h12, if_pos (show p.2.2.1 = 1 ∨ p.2.2.1 = 58 from .inl h3)]
  by_cases h4 : p.2.2.1 = 58
  · simp only [dneg h1, dneg h2, dneg h3, dpos h4, cond_true, cond_false, if_neg h12, if_pos (show p.2.2.1 = 1 ∨ p.2.2.1 = 58 from .inr h4)]
  · simp only [dneg h1, dneg h2, dneg h3, dneg h4, cond_false, if_neg h12, if_neg (show ¬ (p.2.2.1 = 1 ∨ p.2.2.1 = 58) by omega)]
theorem actF_take {l : List Rl} {m : Nat} (hm : m ≤ l.length) (p : Pk) (o : Bool) : actF (l.take m) p o (l.take m).length = actF l p o m := by
  have e : (l.take m).length = m := by rw [List.length_take]; omega
  rw [e]
  unfold actF
  refine firstAt_congr fun i _ h => ?_
  have : (l.take m).getD i rz = l.getD i rz := by
    rw [List.getD, List.getD, List.getElem?_take, if_pos (by omega)]
  rw [this]
section
variable (N : Nat) (hN : 4611686018427387904 ≤ N)
include hN
theorem rule_6 (l : List Rl) (hl : l.length ≤ 1000000) {i : Nat} (hi : i < l.length) (B : List Bx) (hB : B.length ≤ 1000000) {p : Pk} (hp : POk p) (o : Bool) :
    lookup_Rule_6 N o (i : Int) l (l.length : Int) (i : Int) B (B.length : Int) 0 p = some (if (B.any fun b => hasB b p o) = true then .rt (((i : Int), true, ()), ()) else .go ((o, l, (l.length : Int), ((i + 1 : Nat) : Int), ()), (p, ()))) := by
  unfold lookup_Rule_6
  refine (loopK_find (fun j : Nat => ((o, (i : Int), l, (l.length : Int), (i : Int), B, (B.length : Int), (j : Int), ()), (p, ()))) (fun j => hasB (B.getD j bz) p o) (fun _ => .rt (((i : Int), true, ()), ())) (n := B.length) (e := ((o, l, (l.length : Int), (i : Int), ()), (p, ()))) ?_ ?_ ?_ (by omega)).trans ?_
  · intro j hj hq
    show lookup_Rule_s7 N o (i : Int) l (l.length : Int) (i : Int) B (B.length : Int) (j : Int) p = _
    unfold lookup_Rule_s7
    rw [dpos (show (j : Int) < (B.length : Int) by omega), inRN hj, w64_of (by omega) (by omega)]
    simp only [cond_true, Int.toNat_natCast]
    rw [has_ok N hN _ hp, Option.bind_some]
    simp only [hq, cond_false]
    rfl
  · intro j hj hq
    show lookup_Rule_s7 N o (i : Int) l (l.length : Int) (i : Int) B (B.length : Int) (j : Int) p = _
    unfold lookup_Rule_s7
    rw [dpos (show (j : Int) < (B.length : Int) by omega), inRN hj]
    simp only [cond_true, Int.toNat_natCast]
    rw [has_ok N hN _ hp, Option.bind_some]
    simp only [hq, cond_true]
  · show lookup_Rule_s7 N o (i : Int) l (l.length : Int) (i : Int) B (B.length : Int) (B.length : Int) p = _
    unfold lookup_Rule_s7
    rw [dneg (by omega)]; rfl
  · have hany := firstAt_any (fun b => hasB b p o) B bz
    cases hf : firstAt (fun j => hasB (B.getD j bz) p o) 0 B.length with
    | none =>
      rw [hf] at hany
      rw [← hany]
      show lookup_Rule_8 N o l (l.length : Int) (i : Int) p = _
      unfold lookup_Rule_8
      rw [w64_of (by omega) (by omega)]; rfl
    | some j =>
      rw [hf] at hany
      rw [← hany]; rfl
theorem rule_p (l : List Rl) (hl : l.length ≤ 1000000) (hB : ∀ r ∈ l, r.2.2.1.length ≤ 1000000) {p : Pk} (hp : POk p) (o : Bool) : lookup_Rule N l p o = some (((ruleV l p o).1, (ruleV l p o).2, ()), ()) := by
  unfold lookup_Rule lookup_Rule_1
  have step : ∀ i, i < l.length → lookup_Rule_s2 N o l (l.length : Int) (i : Int) p = some (if hasR (l.getD i rz) p o = true then .rt (((i : Int), true, ()), ()) else .go ((o, l, (l.length : Int), ((i + 1 : Nat) : Int), ()), (p, ()))) := by
    intro i hi
    unfold lookup_Rule_s2
    rw [dpos (show (i : Int) < (l.length : Int) by omega), cond_true]
    unfold lookup_Rule_3 lookup_Rule_5
    rw [inRN hi]
    simp only [cond_true, Int.toNat_natCast]
    exact rule_6 N hN l hl hi _ (hB _ (getD_mem hi _)) hp o
  refine (loopK_find (fun i : Nat => ((o, l, (l.length : Int), (i : Int), ()), (p, ()))) (fun i => hasR (l.getD i rz) p o) (fun i => (((i : Int), true, ()), ())) (n := l.length) (e := ((), ())) ?_ ?_ ?_ (by omega)).trans ?_
  · intro i hi hq
    refine (step i hi).trans ?_
    rw [hq]; rfl
  · intro i hi hq
    refine (step i hi).trans ?_
    rw [hq]; rfl
  · show lookup_Rule_s2 N o l (l.length : Int) (l.length : Int) p = _
    unfold lookup_Rule_s2
    rw [dneg (by omega)]; rfl
  · unfold ruleV ruleF
    cases firstAt (fun i => hasR (l.getD i rz) p o) 0 l.length <;> rfl
theorem could_p {b : Bx} (hb : BOk b) {p : Pk} (hp : POk p) (o : Bool) : lookup_could N b p o = some ((cdV b p o, ()), ()) := by
  have hh := has_ok N hN b (cdP_pok hb hp o) o
  unfold lookup_could cdV
  rw [hidden_p]
  unfold cdP lp1 rp1 at *
  obtain ⟨p1, p2, p3, p4, p5, u⟩ := p
  generalize hidV (p1, p2, p3, p4, p5, u) = s at *
  obtain ⟨s, t⟩ := s
  simp only [Option.bind_some] at *
  cases h1 : decide (0 ≤ b.2.2.2.2.2.2.1.getD 1 0) <;> cases h2 : decide (0 ≤ b.2.2.2.2.2.2.2.1.getD 1 0) <;> cases o <;> cases s <;> cases t <;> simp only [h1, h2, Bool.not_true, Bool.not_false, cond_true, cond_false, Bool.false_or, Bool.true_or, Bool.true_and, Bool.false_and] at hh ⊢ <;> first | rfl | (rw [hh]; rfl)
theorem act_11 (l : List Rl) (hl : l.length ≤ 1000000) {i : Nat} (hi : i < l.length) (x : Rl) (hB : x.2.2.1.length ≤ 1000000) (hb : ∀ b ∈ x.2.2.1, BOk b) {p : Pk} (hp : POk p) (o : Bool) (r : Int) (ok : Bool) :
    lookup_Action_11 N o r ok (i : Int) l (l.length : Int) (i : Int) x.2.2.1 (x.2.2.1.length : Int) 0 p x x.2.2.1 = some (if cdR x p o = true then .rt ((0, (i : Int), ()), ()) else .go ((o, r, ok, l, (l.length : Int), ((i + 1 : Nat) : Int), ()), (p, ()))) := by
  unfold lookup_Action_11
  refine (loopK_find (fun j : Nat => ((o, r, ok, (i : Int), l, (l.length : Int), (i : Int), x.2.2.1, (x.2.2.1.length : Int), (j : Int), ()), (p, x, x.2.2.1, ()))) (fun j => !(decide (x.1 = 1)) && cdV (x.2.2.1.getD j bz) p o) (fun _ => .rt ((0, (i : Int), ()), ())) (n := x.2.2.1.length) (e := ((o, r, ok, l, (l.length : Int), (i : Int), ()), (p, ()))) ?_ ?_ ?_ (by omega)).trans ?_
  · intro j hj hq
    show lookup_Action_s12 N o r ok (i : Int) l (l.length : Int) (i : Int) x.2.2.1 (x.2.2.1.length : Int) (j : Int) p x x.2.2.1 = _
    unfold lookup_Action_s12
    rw [dpos (show (j : Int) < (x.2.2.1.length : Int) by omega), inRN hj, w64_of (by omega) (by omega)]
    simp only [cond_true, Int.toNat_natCast]
    cases h1 : decide (x.1 = 1)
    · rw [h1] at hq
      simp only [Bool.not_false, Bool.true_and] at hq
      rw [could_p N hN (hb _ (getD_mem hj _)) hp]
      simp only [Bool.not_false, cond_true, Option.bind_some, hq, cond_false]
      rfl
    · rfl
  · intro j hj hq
    show lookup_Action_s12 N o r ok (i : Int) l (l.length : Int) (i : Int) x.2.2.1 (x.2.2.1.length : Int) (j : Int) p x x.2.2.1 = _
    unfold lookup_Action_s12
    rw [dpos (show (j : Int) < (x.2.2.1.length : Int) by omega), inRN hj]
    simp only [Bool.and_eq_true] at hq
    simp only [cond_true, Int.toNat_natCast, hq.1]
    rw [could_p N hN (hb _ (getD_mem hj _)) hp]
    simp only [Option.bind_some, hq.2, cond_true]
  · show lookup_Action_s12 N o r ok (i : Int) l (l.length : Int) (i : Int) x.2.2.1 (x.2.2.1.length : Int) (x.2.2.1.length : Int) p x x.2.2.1 = _
    unfold lookup_Action_s12
    rw [dneg (by omega)]; rfl
  · have hany := firstAt_any (fun b => !(decide (x.1 = 1)) && cdV b p o) x.2.2.1 bz
    have hr : (x.2.2.1.any fun b => !(decide (x.1 = 1)) && cdV b p o) = cdR x p o := by
      unfold cdR
      cases decide (x.1 = 1)
      · simp
      · simp
    rw [hr] at hany
    cases hf : firstAt (fun j => !(decide (x.1 = 1)) && cdV (x.2.2.1.getD j bz) p o) 0 x.2.2.1.length with
    | none =>
      rw [hf] at hany
      rw [← hany]
      show lookup_Action_13 N o r ok l (l.length : Int) (i : Int) p = _
      unfold lookup_Action_13
      rw [w64_of (by omega) (by omega)]; rfl
    | some j =>
      rw [hf] at hany
      rw [← hany]; rfl
theorem act_5 (l : List Rl) (hl : l.length ≤ 1000000) (hB : ∀ r ∈ l, r.2.2.1.length ≤ 1000000 ∧ ∀ b ∈ r.2.2.1, BOk b) {p : Pk} (hp : POk p) (o : Bool) (r : Int) (ok : Bool) :
    lookup_Action_5 N o r ok l p = match actF l p o l.length with
      | some i => some ((0, (i : Int), ()), ())
      | none => lookup_Action_14 N r ok := by
  unfold lookup_Action_5 lookup_Action_6
  have step : ∀ i, i < l.length → lookup_Action_s7 N o r ok l (l.length : Int) (i : Int) p = some (if cdR (l.getD i rz) p o = true then .rt ((0, (i : Int), ()), ()) else .go ((o, r, ok, l, (l.length : Int), ((i + 1 : Nat) : Int), ()), (p, ()))) := by
    intro i hi
    unfold lookup_Action_s7
    rw [dpos (show (i : Int) < (l.length : Int) by omega), cond_true]
    unfold lookup_Action_8 lookup_Action_10
    rw [inRN hi]
    simp only [cond_true, Int.toNat_natCast]
    have h := hB _ (getD_mem hi rz)
    exact act_11 N hN l hl hi _ h.1 h.2 hp o r ok
  refine (loopK_find (fun i : Nat => ((o, r, ok, l, (l.length : Int), (i : Int), ()), (p, ()))) (fun i => cdR (l.getD i rz) p o) (fun i => ((0, (i : Int), ()), ())) (n := l.length) (e := ((r, ok, ()), ())) ?_ ?_ ?_ (by omega)).trans ?_
  · intro i hi hq
    refine (step i hi).trans ?_
    rw [hq]; rfl
  · intro i hi hq
    refine (step i hi).trans ?_
    rw [hq]; rfl
  · show lookup_Action_s7 N o r ok l (l.length : Int) (l.length : Int) p = _
    unfold lookup_Action_s7
    rw [dneg (by omega)]; rfl
  · unfold actF
    cases firstAt (fun i => cdR (l.getD i rz) p o) 0 l.length <;> rfl
theorem act_2 (l : List Rl) (hl : l.length ≤ 1000000) (hB : ∀ r ∈ l, r.2.2.1.length ≤ 1000000 ∧ ∀ b ∈ r.2.2.1, BOk b) {p : Pk} (hp : POk p) (o : Bool) (r : Int) (ok : Bool) :
    lookup_Action_2 N o r ok l p = some (((actE l p o l.length (bif !ok then (0, -1) else (1, r))).1, (actE l p o l.length (bif !ok then (0, -1) else (1, r))).2, ()), ()) := by
  have h14 : lookup_Action_14 N r ok = some (((bif !ok then ((0, -1) : Int × Int) else (1, r)).1, (bif !ok then ((0, -1) : Int × Int) else (1, r)).2, ()), ()) := by cases ok <;> rfl
  have h5 : lookup_Action_3 N o r ok l true p = some (((match actF l p o l.length with | some i => ((0, (i : Int)) : Int × Int) | none => (bif !ok then ((0, -1) : Int × Int) else (1, r))).1, (match actF l p o l.length with | some i => ((0, (i : Int)) : Int × Int) | none => (bif !ok then ((0, -1) : Int × Int) else (1, r))).2, ()), ()) := by
    unfold lookup_Action_3
    rw [cond_true, act_5 N hN l hl hB hp]
    cases actF l p o l.length
    · exact h14
    · rfl
  unfold lookup_Action_2 actE hid
  rw [hidden_p, Option.bind_some]
  simp only []
  cases (hidV p).1
  · cases (hidV p).2
    · unfold lookup_Action_3
      rw [cond_false, cond_false]
      exact h14
    · rw [cond_false]; exact h5
  · rw [cond_true]; exact h5
theorem action_p (l : List Rl) (hl : l.length ≤ 1000000) (hB : ∀ r ∈ l, r.2.2.1.length ≤ 1000000 ∧ ∀ b ∈ r.2.2.1, BOk b) {p : Pk} (hp : POk p) (o : Bool) :
    lookup_Action N l p o = some (((actV l p o).1, (actV l p o).2, ()), ()) := by
  unfold lookup_Action actV
  rw [rule_p N hN l hl (fun r hr => (hB r hr).1) hp o, Option.bind_some]
  unfold ruleV
  cases hf : ruleF l p o with
  | none =>
    simp only [cond_false]
    unfold lookup_Action_1
    rw [cond_false, cond_false, act_2 N hN l hl hB hp]
    rfl
  | some r =>
    obtain ⟨h1, h2, _⟩ := firstAt_some.1 hf
    have hr : r < l.length := by omega
    simp only [cond_true, inRN hr, Int.toNat_natCast]
    unfold lookup_Action_1
    by_cases ha : (l.getD r rz).1 = 1
    · rw [dpos ha, if_pos ha]
      simp only [Bool.not_true, cond_false, cond_true]
      have d1 : decide ((0 : Int) ≤ (r : Int)) = true := decide_eq_true (by omega)
      have d2 : decide ((r : Int) ≤ (l.length : Int)) = true := decide_eq_true (by omega)
      have d3 : decide ((0 : Int) ≤ 0) = true := rfl
      have hcut : cut l 0 (r : Int).toNat = l.take r := by unfold cut; simp
      have htl : (l.take r).length ≤ 1000000 := by rw [List.length_take]; omega
      simp only [d1, d2, d3, Bool.and_self, Bool.and_true, cond_true, hcut]
      rw [act_2 N hN (l.take r) htl (fun x hx => hB x (List.mem_of_mem_take hx)) hp]
      unfold actE
      rw [actF_take (show r ≤ l.length by omega)]
      rfl
    · rw [dneg ha, if_neg ha]
      simp only [Bool.not_false, cond_true, inRN hr, Int.toNat_natCast]
end
end Go.Proofs.Ytgbkkfpheahdfaa.Pl

/- Plain: the law LookupTurns. -/
namespace Go.Proofs.Ytgbkkfpheahdfaa.Pl
open Go
theorem awake22 : law22_awake 18446744073709551616 = some ((true, ()), ()) := by kernel_rfl
def swp (p : Pk) : Pk := (p.2.1, p.1, p.2.2.1, p.2.2.2.2.1, p.2.2.2.1, ())
theorem swp_pok {p : Pk} (h : POk p) : POk (swp p) := ⟨h.1, h.2.2, h.2.1⟩
theorem hasB_swp (b : Bx) (p : Pk) : hasB b (swp p) false = hasB b p true := rfl
theorem hasR_swp (r : Rl) (p : Pk) : hasR r (swp p) false = hasR r p true := rfl
theorem ruleF_swp (l : List Rl) (p : Pk) : ruleF l (swp p) false = ruleF l p true := rfl
theorem ruleV_swp (l : List Rl) (p : Pk) : ruleV l (swp p) false = ruleV l p true := rfl
theorem hidV_swp (p : Pk) (h1 : p.2.2.1 ≠ 1) (h2 : p.2.2.1 ≠ 58) : hidV (swp p) = ((hidV p).2, (hidV p).1) := by
  unfold hidV swp
  have h : ¬ (p.2.2.1 = 1 ∨ p.2.2.1 = 58) := by omega
  simp only [if_neg h]
  split <;> rfl
theorem cdV_swp (b : Bx) (p : Pk) (h1 : p.2.2.1 ≠ 1) (h2 : p.2.2.1 ≠ 58) : cdV b (swp p) false = cdV b p true := by
  have hh := hidV_swp p h1 h2
  have e : cdP b (swp p) false = swp (cdP b p true) := by
    unfold cdP
    rw [hh]
    cases (hidV p).1 <;> cases (hidV p).2 <;> rfl
  unfold cdV
  rw [e, hh, hasB_swp]
  show ((!(hidV p).2 || decide (0 ≤ (cdP b p true).2.2.2.2.1)) && ((!(hidV p).1 || decide (0 ≤ (cdP b p true).2.2.2.1)) && hasB b (cdP b p true) true)) = _
  generalize (!(hidV p).2 || decide (0 ≤ (cdP b p true).2.2.2.2.1)) = x
  generalize (!(hidV p).1 || decide (0 ≤ (cdP b p true).2.2.2.1)) = y
  cases x <;> cases y <;> rfl
theorem actV_swp (l : List Rl) (p : Pk) (h1 : p.2.2.1 ≠ 1) (h2 : p.2.2.1 ≠ 58) : actV l (swp p) false = actV l p true := by
  have hh := hidV_swp p h1 h2
  have hr : ∀ r : Rl, cdR r (swp p) false = cdR r p true := fun r => by
    unfold cdR
    congr 2
    funext b
    exact cdV_swp b p h1 h2
  have ha : ∀ m, actF l (swp p) false m = actF l p true m := fun m => firstAt_congr fun i _ _ => hr _
  have hd : hid (swp p) = hid p := by unfold hid; rw [hh]; exact Bool.or_comm _ _
  have he : ∀ m d, actE l (swp p) false m d = actE l p true m d := fun m d => by unfold actE; rw [hd, ha]
  unfold actV
  rw [ruleF_swp]
  cases ruleF l p true <;> simp only [he]
theorem turns (codes : List UInt8) (hc : codes.length ≤ 9223372036854775807) (packets : List UInt8) (hp : packets.length ≤ 9223372036854775807) :
    law22_LookupTurns 18446744073709551616 codes packets = some ((true, ()), ()) := by
  unfold law22_LookupTurns
  rw [awake22]
  generalize hN0 : 18446744073709551616 = N
  have hN : 4611686018427387904 ≤ N := by omega
  clear hN0
  simp only [Option.bind_some, Bool.not_true, cond_false]
  obtain ⟨c0, e0, k0⟩ := new_ok N codes (m := 240) (by omega) (by omega)
  obtain ⟨l, c1, e1, k1, hl⟩ := rules_ok N hN (m := 4) (by omega) k0
  obtain ⟨d0, e2, k2⟩ := new_ok N packets (m := 160) (by omega) (by omega)
  have e1' : make_Codes_Rules N (4 : Int) c0 = _ := e1
  rw [e0, Option.bind_some, e1', Option.bind_some, e2, Option.bind_some]
  have hlen : l.length ≤ 1000000 := by have := hl.1; omega
  have hB : ∀ r ∈ l, r.2.2.1.length ≤ 1000000 ∧ ∀ b ∈ r.2.2.1, BOk b := fun r hr => ⟨by have := (hl.2 r hr).len; omega, (hl.2 r hr).box⟩
  show law22_LookupTurns_1 N 0 l d0 = _
  unfold law22_LookupTurns_1
  have := loopK_of (N := N) (step := fun y => law22_LookupTurns_s2 N y.1.1 y.2.1 y.2.2.1) (J := fun (e : ((Unit) × (Unit))) => law22_LookupTurns_3 N)
    (I := fun y => ∃ (i : Nat) (d : Cd), y = (((i : Int), ()), (l, d, ())) ∧ COk d ∧ i ≤ 8) (μ := fun y => (8 - y.1.1).toNat) (T := fun r => r = ((true, ()), ())) ?_ (x := ((0, ()), (l, d0, ()))) ⟨0, d0, rfl, k2, by omega⟩ (by simp only; omega)
  · obtain ⟨r, h1, rfl⟩ := this
    exact h1
  · rintro _ ⟨i, d, rfl, hd, hi⟩
    show ∃ r, law22_LookupTurns_s2 N (i : Int) l d = some r ∧ _
    unfold law22_LookupTurns_s2
    by_cases hlt : i < 8
    · obtain ⟨p, d', e, hd', hpk⟩ := packet_ok N hd
      have hq := swp_pok hpk
      have hw : w64 ((i : Int) + 1) = ((i + 1 : Nat) : Int) := by rw [w64_of (by omega) (by omega)]; rfl
      have r1 := rule_p N hN l hlen (fun r hr => (hB r hr).1) hpk true
      have r2 := rule_p N hN l hlen (fun r hr => (hB r hr).1) hq false
      have a1 := action_p N hN l hlen hB hpk true
      have a2 := action_p N hN l hlen hB hq false
      rw [ruleV_swp] at r2
      rw [dpos (show (i : Int) < 8 by omega), cond_true, e, Option.bind_some]
      show ∃ r, (Option.bind (lookup_Rule N l p true) fun y8 => Option.bind (lookup_Rule N l (swp p) false) fun y9 => _) = some r ∧ _
      rw [r1, Option.bind_some, r2, Option.bind_some]
      simp only [decide_true, Bool.not_true, cond_false, hw]
      refine ⟨.go ((((i + 1 : Nat) : Int), ()), (l, d', ())), ?_, ⟨i + 1, d', rfl, hd', by omega⟩, by simp only; omega⟩
      by_cases h1 : p.2.2.1 = 1
      · rw [dpos h1]; rfl
      by_cases h2 : p.2.2.1 = 58
      · rw [dneg h1, dpos h2]; rfl
      rw [actV_swp l p h1 h2] at a2
      rw [dneg h1, dneg h2]
      simp only [Bool.not_false, cond_true]
      show (Option.bind (lookup_Action N l p true) fun y14 => Option.bind (lookup_Action N l (swp p) false) fun y15 => _) = _
      rw [a1, Option.bind_some, a2, Option.bind_some]
      simp only [decide_true, Bool.not_true, cond_false]
    · rw [dneg (show ¬ (i : Int) < 8 by omega), cond_false]
      exact ⟨_, rfl, _, rfl, rfl⟩
end Go.Proofs.Ytgbkkfpheahdfaa.Pl

/- Plain: the law LookupHides. -/
namespace Go.Proofs.Ytgbkkfpheahdfaa.Pl
open Go
def lp0 (b : Bx) : Int := b.2.2.2.2.2.2.1.getD 0 0
def rp0 (b : Bx) : Int := b.2.2.2.2.2.2.2.1.getD 0 0
def adrB (b : Bx) (t : Pk) : Bool := inS (b.1, b.2.1, ()) (vk t.1) && (inS (b.2.2.1, b.2.2.2.1, ()) (vk t.2.1) && inS (nv b.2.2.2.2.1, nv b.2.2.2.2.2.1, ()) (t.2.2.1 + 1))
theorem hasB_iff {b : Bx} (hb : BOk b) (q : Pk) (o : Bool) : hasB b q o = true ↔ adrB b (turn q o) = true ∧ (lp0 b ≤ (turn q o).2.2.2.1 ∧ (turn q o).2.2.2.1 ≤ lp1 b) ∧ rp0 b ≤ (turn q o).2.2.2.2.1 ∧ (turn q o).2.2.2.2.1 ≤ rp1 b := by
  obtain ⟨x, y, e1, x1, x2, x3⟩ := hb.lport
  obtain ⟨u, v, e2, u1, u2, u3⟩ := hb.rport
  unfold hasB
  generalize turn q o = t
  have hh : hasP (ofB b) (pt t) = (inS (b.1, b.2.1, ()) (vk t.1) && (inS (b.2.2.1, b.2.2.2.1, ()) (vk t.2.1) && (inS (nv b.2.2.2.2.1, nv b.2.2.2.2.2.1, ()) (t.2.2.1 + 1) && (inS (nv x, nv y, ()) (t.2.2.2.1 + 1) && inS (nv u, nv v, ()) (t.2.2.2.2.1 + 1))))) := by
    unfold hasP ofB
    rw [e1, e2]
    rfl
  rw [hh, num_in (lo := x) (hi := y) (by omega) (by omega) (by omega) (by omega), num_in (lo := u) (hi := v) (by omega) (by omega) (by omega) (by omega)]
  unfold adrB lp0 lp1 rp0 rp1
  rw [e1, e2]
  simp only [List.getD_cons_zero, List.getD_cons_succ, Bool.and_eq_true, decide_eq_true_eq]
  constructor
  · rintro ⟨h1, h2, h3, h4, h5⟩; exact ⟨⟨h1, h2, h3⟩, h4, h5⟩
  · rintro ⟨⟨h1, h2, h3⟩, h4, h5⟩; exact ⟨h1, h2, h3, h4, h5⟩
theorem bok_l01 {b : Bx} (hb : BOk b) : lp0 b ≤ lp1 b ∧ rp0 b ≤ rp1 b := by
  obtain ⟨x, y, e1, x1, x2, x3⟩ := hb.lport
  obtain ⟨u, v, e2, u1, u2, u3⟩ := hb.rport
  unfold lp0 lp1 rp0 rp1
  rw [e1, e2]
  exact ⟨x2, u2⟩
/-- A box that has the packet for some ports could have it. -/
theorem cd_of_has {b : Bx} (hb : BOk b) {p q : Pk} (o : Bool) (h1 : q.1 = p.1) (h2 : q.2.1 = p.2.1) (h3 : q.2.2.1 = p.2.2.1) (hs : if (hidV p).1 = true then 0 ≤ q.2.2.2.1 else q.2.2.2.1 = p.2.2.2.1) (ht : if (hidV p).2 = true then 0 ≤ q.2.2.2.2.1 else q.2.2.2.2.1 = p.2.2.2.2.1)
    (h : hasB b q o = true) : cdV b p o = true := by
  have hl := bok_l01 hb
  obtain ⟨a1, a2, a3⟩ := (hasB_iff hb q o).1 h
  have hi := hasB_iff hb (cdP b p o) o
  have ha : adrB b (turn (cdP b p o) o) = adrB b (turn q o) := by
    cases o
    · show adrB b (p.2.1, p.1, p.2.2.1, _, _, ()) = adrB b (q.2.1, q.1, q.2.2.1, _, _, ())
      unfold adrB
      rw [h1, h2, h3]
    · show adrB b (p.1, p.2.1, p.2.2.1, _, _, ()) = adrB b q
      unfold adrB
      rw [h1, h2, h3]
  rw [ha] at hi
  unfold cdV
  cases o
  · have e : turn q false = (q.2.1, q.1, q.2.2.1, q.2.2.2.2.1, q.2.2.2.1, ()) := rfl
    rw [e] at a2 a3
    simp only at a2 a3
    have e2 : turn (cdP b p false) false = (p.2.1, p.1, p.2.2.1, (bif (hidV p).2 then lp1 b else p.2.2.2.2.1), (bif (hidV p).1 then rp1 b else p.2.2.2.1), ()) := rfl
    rw [e2] at hi
    simp only at hi
    have e3 : (cdP b p false).2.2.2.1 = (bif (hidV p).1 then rp1 b else p.2.2.2.1) := rfl
    have e4 : (cdP b p false).2.2.2.2.1 = (bif (hidV p).2 then lp1 b else p.2.2.2.2.1) := rfl
    rw [e3, e4]
    cases h4 : (hidV p).1 <;> cases h5 : (hidV p).2 <;> rw [h4] at hs hi <;> rw [h5] at ht hi <;> simp only [cond_true, cond_false, if_true, Bool.false_eq_true, if_false] at hs ht hi ⊢ <;> rw [hi.2 ⟨a1, ⟨by omega, by omega⟩, by omega, by omega⟩] <;> simp <;> omega
  · have e : turn q true = q := rfl
    rw [e] at a2 a3
    have e2 : turn (cdP b p true) true = (p.1, p.2.1, p.2.2.1, (bif (hidV p).1 then lp1 b else p.2.2.2.1), (bif (hidV p).2 then rp1 b else p.2.2.2.2.1), ()) := rfl
    rw [e2] at hi
    simp only at hi
    have e3 : (cdP b p true).2.2.2.1 = (bif (hidV p).1 then lp1 b else p.2.2.2.1) := rfl
    have e4 : (cdP b p true).2.2.2.2.1 = (bif (hidV p).2 then rp1 b else p.2.2.2.2.1) := rfl
    rw [e3, e4]
    cases h4 : (hidV p).1 <;> cases h5 : (hidV p).2 <;> rw [h4] at hs hi <;> rw [h5] at ht hi <;> simp only [cond_true, cond_false, if_true, Bool.false_eq_true, if_false] at hs ht hi ⊢ <;> rw [hi.2 ⟨a1, ⟨by omega, by omega⟩, by omega, by omega⟩] <;> simp <;> omega
/-- An action that lets pass although ports are hidden. -/
theorem act_bypass {l : List Rl} {p : Pk} {o : Bool} (hh : hid p = true) (h : (actV l p o).1 = 1) : ∃ ρ : Nat, (actV l p o).2 = (ρ : Int) ∧ ρ < l.length ∧ ∀ i, i < ρ → cdR (l.getD i rz) p o = false := by
  unfold actV at h ⊢
  cases hf : ruleF l p o with
  | none =>
    rw [hf] at h
    simp only at h
    unfold actE at h
    rw [if_pos hh] at h
    cases hg : actF l p o l.length with
    | none => rw [hg] at h; simp at h
    | some i => rw [hg] at h; simp at h
  | some ρ =>
    have hρ := (firstAt_some.1 hf).2.1
    rw [hf] at h
    simp only at h ⊢
    by_cases ha : (l.getD ρ rz).1 = 1
    · rw [if_pos ha] at h ⊢
      unfold actE at h ⊢
      rw [if_pos hh] at h ⊢
      cases hg : actF l p o ρ with
      | none =>
        refine ⟨ρ, rfl, by omega, fun i hi => ?_⟩
        exact firstAt_none.1 hg i (by omega) (by omega)
      | some i => rw [hg] at h; simp at h
    · rw [if_neg ha] at h
      exact absurd h ha
def PtsOk (l : List Int) : Prop := ∀ x ∈ l, 0 ≤ x ∧ x ≤ 65535
theorem pick_port {ports : List Int} (hp : PtsOk ports) (hne : 0 < ports.length) {v : Int} (v0 : 0 ≤ v) : (!(decide ((ports.length : Int) = 0))) = true ∧ inR (v.tmod (ports.length : Int)) ports.length = true ∧ 0 ≤ ports.getD (v.tmod (ports.length : Int)).toNat 0 ∧ ports.getD (v.tmod (ports.length : Int)).toNat 0 ≤ 65535 := by
  have h0 : 0 ≤ v.tmod (ports.length : Int) := Int.tmod_nonneg _ v0
  have h1 : v.tmod (ports.length : Int) < (ports.length : Int) := Int.tmod_lt_of_pos _ (by omega)
  refine ⟨by rw [dneg (by omega)]; rfl, inR_of h0 h1, ?_⟩
  exact hp _ (getD_mem (by omega) 0)
section
variable (N : Nat) (hN : 4611686018427387904 ≤ N)
include hN
theorem rule_cont {A : Type} {l : List Rl} (hl : l.length ≤ 1000000) (hB : ∀ r ∈ l, r.2.2.1.length ≤ 1000000 ∧ ∀ b ∈ r.2.2.1, BOk b) {p q : Pk} (hq : POk q) (o : Bool) {ρ : Nat} (H : ∀ i, i < ρ → cdR (l.getD i rz) p o = false)
    (h1 : q.1 = p.1) (h2 : q.2.1 = p.2.1) (h3 : q.2.2.1 = p.2.2.1) (hs : if (hidV p).1 = true then 0 ≤ q.2.2.2.1 else q.2.2.2.1 = p.2.2.2.1) (ht : if (hidV p).2 = true then 0 ≤ q.2.2.2.2.1 else q.2.2.2.2.1 = p.2.2.2.2.1) (G B : Option A) :
    (Option.bind (lookup_Rule N l q o) fun y => bif y.1.2.1 then (bif decide (y.1.1 < (ρ : Int)) then (bif inR y.1.1 l.length then (bif !(decide ((l.getD y.1.1.toNat rz).1 = 1)) then B else G) else none) else G) else G) = G := by
  rw [rule_p N hN l hl (fun r hr => (hB r hr).1) hq o, Option.bind_some]
  unfold ruleV
  cases hf : ruleF l q o with
  | none => rfl
  | some s =>
    obtain ⟨k1, k2, k3, _⟩ := firstAt_some.1 hf
    simp only [cond_true]
    by_cases hlt : s < ρ
    · have hsl : s < l.length := by omega
      rw [dpos (show (s : Int) < (ρ : Int) by omega), inRN hsl]
      simp only [cond_true, Int.toNat_natCast]
      have hc := H s hlt
      unfold cdR at hc
      by_cases ha : (l.getD s rz).1 = 1
      · rw [dpos ha]; rfl
      · exfalso
        rw [dneg ha] at hc
        simp only [Bool.not_false, Bool.true_and] at hc
        unfold hasR at k3
        obtain ⟨b, hb, hbb⟩ := List.any_eq_true.1 k3
        have hbo := (hB _ (getD_mem hsl rz)).2 b hb
        have := cd_of_has hbo o h1 h2 h3 hs ht hbb
        have h' := List.any_eq_false.1 hc b hb
        exact h' this
    · rw [dneg (show ¬ (s : Int) < (ρ : Int) by omega)]; rfl
end
end Go.Proofs.Ytgbkkfpheahdfaa.Pl

/- Plain: the document's look-ups are the program's. -/
namespace Go.Proofs.Ytgbkkfpheahdfaa.Pl
open Go
abbrev En := Bx × (Int × Unit)
abbrev ez : En := (bz, 0, ())
def entF (l : List En) (p : Pk) (o : Bool) : Option Nat := firstAt (fun i => hasB (l.getD i ez).1 p o) 0 l.length
def entV (l : List En) (p : Pk) (o : Bool) : Int × Bool := match entF l p o with
  | some i => ((i : Int), true)
  | none => (0, false)
theorem max_in {h : Bool} {a b x : Int} (hab : a ≤ b) : (a ≤ (bif h then (bif decide (0 < b) then b else 0) else x) ∧ (bif h then (bif decide (0 < b) then b else 0) else x) ≤ b) ↔ ((!h || decide (0 ≤ (bif h then b else x))) = true ∧ a ≤ (bif h then b else x) ∧ (bif h then b else x) ≤ b) := by
  cases h
  · simp
  · simp only [cond_true, Bool.not_true, Bool.false_or, decide_eq_true_eq]
    by_cases h0 : 0 < b
    · rw [dpos h0]; simp only [cond_true]; omega
    · rw [dneg h0]; simp only [cond_false]; omega
theorem hid_pr {p : Pk} (h : hid p = true) : p.2.2.1 = 6 ∨ p.2.2.1 = 17 ∨ p.2.2.1 = 1 ∨ p.2.2.1 = 58 := by
  unfold hid hidV at h
  by_cases h1 : p.2.2.1 = 6 ∨ p.2.2.1 = 17
  · omega
  by_cases h2 : p.2.2.1 = 1 ∨ p.2.2.1 = 58
  · omega
  rw [if_neg h1, if_neg h2] at h
  simp at h
theorem rhidden_p (N : Nat) (p : Pk) : ref22_hidden N p = some ((hid p, ()), ()) := by
  unfold ref22_hidden hid hidV
  by_cases h1 : p.2.2.1 = 6
  · rw [dpos h1, if_pos (show p.2.2.1 = 6 ∨ p.2.2.1 = 17 from .inl h1)]
    cases decide (p.2.2.2.1 = -1) <;> rfl
  by_cases h2 : p.2.2.1 = 17
  · rw [dneg h1, dpos h2, if_pos (show p.2.2.1 = 6 ∨ p.2.2.1 = 17 from .inr h2)]
    cases decide (p.2.2.2.1 = -1) <;> rfl
  have h12 : ¬ (p.2.2.1 = 6 ∨ p.2.2.1 = 17) := by omega
  by_cases h3 : p.2.2.1 = 1
  · rw [dneg h1, dneg h2, dpos h3, if_neg h12, if_pos (show p.2.2.1 = 1 ∨ p.2.2.1 = 58 from .inl h3)]
    cases decide (p.2.2.2.1 = -1) <;> rfl
  by_cases h4 : p.2.2.1 = 58
  · rw [dneg h1, dneg h2, dneg h3, dpos h4, if_neg h12, if_pos (show p.2.2.1 = 1 ∨ p.2.2.1 = 58 from .inr h4)]
    cases decide (p.2.2.2.1 = -1) <;> rfl
  · rw [dneg h1, dneg h2, dneg h3, dneg h4, if_neg h12, if_neg (show ¬ (p.2.2.1 = 1 ∨ p.2.2.1 = 58) by omega)]; rfl
theorem some_2 (N : Nat) {b : Bx} (hb : BOk b) (s t : Bool) (q : Pk) :
    ref22_some_2 N s t b q = some ((hasB b (q.1, q.2.1, q.2.2.1, (bif s then (bif decide (0 < lp1 b) then lp1 b else 0) else q.2.2.2.1), (bif t then (bif decide (0 < rp1 b) then rp1 b else 0) else q.2.2.2.2.1), ()) true, ()), ()) := by
  unfold ref22_some_2 ref22_some_3 ref22_some_4 lp1 rp1
  cases s <;> cases t <;> simp only [cond_true, cond_false] <;> rw [rhas_ok N hb] <;> rfl
theorem rsome_p (N : Nat) {b : Bx} (hb : BOk b) {p : Pk} (hh : hid p = true) (o : Bool) : ref22_some N b p o = some ((cdV b p o, ()), ()) := by
  have hpr := hid_pr hh
  have key : ref22_some N b p o = ref22_some_1 N o (hidV p).1 (hidV p).2 b p := by
    unfold ref22_some hidV
    by_cases h1 : p.2.2.1 = 6 ∨ p.2.2.1 = 17
    · rw [if_pos h1]
      by_cases ht : p.2.2.2.2.1 = -1
      · rw [dpos ht]
        rcases h1 with h6 | h17
        · rw [dpos h6]; rfl
        · rw [dneg (show ¬ p.2.2.1 = 6 by omega), dpos h17]; rfl
      · rw [dneg ht]; rfl
    · have h2 : p.2.2.1 = 1 ∨ p.2.2.1 = 58 := by omega
      rw [if_neg h1, if_pos h2]
      by_cases ht : p.2.2.2.2.1 = -1
      · rw [dpos ht, dneg (show ¬ p.2.2.1 = 6 by omega), dneg (show ¬ p.2.2.1 = 17 by omega)]; rfl
      · rw [dneg ht]; rfl
  rw [key]
  unfold ref22_some_1
  rw [rturn_ok, Option.bind_some]
  have hl := bok_l01 hb
  congr 2
  cases o
  · simp only [Bool.not_false, cond_true]
    rw [some_2 N hb]
    congr 3
    have i1 := hasB_iff hb ((turn p false).1, (turn p false).2.1, (turn p false).2.2.1, (bif (hidV p).2 then (bif decide (0 < lp1 b) then lp1 b else 0) else (turn p false).2.2.2.1), (bif (hidV p).1 then (bif decide (0 < rp1 b) then rp1 b else 0) else (turn p false).2.2.2.2.1), ()) true
    have i2 := hasB_iff hb (cdP b p false) false
    have m1 := max_in (h := (hidV p).2) (a := lp0 b) (b := lp1 b) (x := (turn p false).2.2.2.1) hl.1
    have m2 := max_in (h := (hidV p).1) (a := rp0 b) (b := rp1 b) (x := (turn p false).2.2.2.2.1) hl.2
    rw [Bool.eq_iff_iff, i1]
    unfold cdV
    rw [Bool.and_eq_true, Bool.and_eq_true, i2]
    show (adrB b (p.2.1, p.1, p.2.2.1, _, _, ()) = true ∧ _ ∧ _) ↔ (_ ∧ _ ∧ (adrB b (p.2.1, p.1, p.2.2.1, _, _, ()) = true ∧ _ ∧ _))
    constructor
    · rintro ⟨a, b1, b2⟩
      exact ⟨(m2.1 b2).1, (m1.1 b1).1, a, (m1.1 b1).2, (m2.1 b2).2⟩
    · rintro ⟨c2, c1, a, b1, b2⟩
      exact ⟨a, m1.2 ⟨c1, b1⟩, m2.2 ⟨c2, b2⟩⟩
  · simp only [Bool.not_true, cond_false]
    rw [some_2 N hb]
    congr 3
    have i1 := hasB_iff hb ((turn p true).1, (turn p true).2.1, (turn p true).2.2.1, (bif (hidV p).1 then (bif decide (0 < lp1 b) then lp1 b else 0) else (turn p true).2.2.2.1), (bif (hidV p).2 then (bif decide (0 < rp1 b) then rp1 b else 0) else (turn p true).2.2.2.2.1), ()) true
    have i2 := hasB_iff hb (cdP b p true) true
    have m1 := max_in (h := (hidV p).1) (a := lp0 b) (b := lp1 b) (x := (turn p true).2.2.2.1) hl.1
    have m2 := max_in (h := (hidV p).2) (a := rp0 b) (b := rp1 b) (x := (turn p true).2.2.2.2.1) hl.2
    rw [Bool.eq_iff_iff, i1]
    unfold cdV
    rw [Bool.and_eq_true, Bool.and_eq_true, i2]
    show (adrB b (p.1, p.2.1, p.2.2.1, _, _, ()) = true ∧ _ ∧ _) ↔ (_ ∧ _ ∧ (adrB b (p.1, p.2.1, p.2.2.1, _, _, ()) = true ∧ _ ∧ _))
    constructor
    · rintro ⟨a, b1, b2⟩
      exact ⟨(m1.1 b1).1, (m2.1 b2).1, a, (m1.1 b1).2, (m2.1 b2).2⟩
    · rintro ⟨c1, c2, a, b1, b2⟩
      exact ⟨a, m1.2 ⟨c1, b1⟩, m2.2 ⟨c2, b2⟩⟩
section
variable (N : Nat) (hN : 4611686018427387904 ≤ N)
include hN
theorem lentry_p (l : List En) (hl : l.length ≤ 1000000) {p : Pk} (hp : POk p) (o : Bool) : lookup_Entry N l p o = some (((entV l p o).1, (entV l p o).2, ()), ()) := by
  unfold lookup_Entry lookup_Entry_1
  refine (loopK_find (fun i : Nat => ((o, l, (l.length : Int), (i : Int), ()), (p, ()))) (fun i => hasB (l.getD i ez).1 p o) (fun i => (((i : Int), true, ()), ())) (n := l.length) (e := ((), ())) ?_ ?_ ?_ (by omega)).trans ?_
  · intro i hi hq
    show lookup_Entry_s2 N o l (l.length : Int) (i : Int) p = _
    unfold lookup_Entry_s2
    rw [dpos (show (i : Int) < (l.length : Int) by omega), inRN hi, w64_of (by omega) (by omega)]
    simp only [cond_true, Int.toNat_natCast]
    rw [has_ok N hN _ hp, Option.bind_some]
    simp only [hq, cond_false]
    rfl
  · intro i hi hq
    show lookup_Entry_s2 N o l (l.length : Int) (i : Int) p = _
    unfold lookup_Entry_s2
    rw [dpos (show (i : Int) < (l.length : Int) by omega), inRN hi]
    simp only [cond_true, Int.toNat_natCast]
    rw [has_ok N hN _ hp, Option.bind_some]
    simp only [hq, cond_true]
  · show lookup_Entry_s2 N o l (l.length : Int) (l.length : Int) p = _
    unfold lookup_Entry_s2
    rw [dneg (by omega)]; rfl
  · unfold entV entF
    cases firstAt (fun i => hasB (l.getD i ez).1 p o) 0 l.length <;> rfl
theorem rentry_p (l : List En) (hl : l.length ≤ 1000000) (hb : ∀ e ∈ l, BOk e.1) (p : Pk) (o : Bool) : ref22_Entry N l p o = some (((entV l p o).1, (entV l p o).2, ()), ()) := by
  unfold ref22_Entry ref22_Entry_1
  refine (loopK_find (fun i : Nat => ((l, o, (i : Int), ()), (p, ()))) (fun i => hasB (l.getD i ez).1 p o) (fun i => (((i : Int), true, ()), ())) (n := l.length) (e := ((), ())) ?_ ?_ ?_ (by omega)).trans ?_
  · intro i hi hq
    show ref22_Entry_s2 N l o (i : Int) p = _
    unfold ref22_Entry_s2
    rw [dpos (show (i : Int) < (l.length : Int) by omega), inRN hi, w64_of (by omega) (by omega)]
    simp only [cond_true, Int.toNat_natCast]
    rw [rhas_ok N (hb _ (getD_mem hi ez)), Option.bind_some]
    simp only [hq, cond_false]
    rfl
  · intro i hi hq
    show ref22_Entry_s2 N l o (i : Int) p = _
    unfold ref22_Entry_s2
    rw [dpos (show (i : Int) < (l.length : Int) by omega), inRN hi]
    simp only [cond_true, Int.toNat_natCast]
    rw [rhas_ok N (hb _ (getD_mem hi ez)), Option.bind_some]
    simp only [hq, cond_true]
  · show ref22_Entry_s2 N l o (l.length : Int) p = _
    unfold ref22_Entry_s2
    rw [dneg (by omega)]; rfl
  · unfold entV entF
    cases firstAt (fun i => hasB (l.getD i ez).1 p o) 0 l.length <;> rfl
theorem rrule_6 (l : List Rl) (hl : l.length ≤ 1000000) {i : Nat} (hi : i < l.length) {B : List Bx} (hlB : (l.getD i rz).2.2.1 = B) (hB : B.length ≤ 1000000) (hb : ∀ b ∈ B, BOk b) (p : Pk) (o : Bool) :
    ref22_Rule_6 N l o (i : Int) 0 p = some (if (B.any fun b => hasB b p o) = true then .rt (((i : Int), true, ()), ()) else .go ((l, o, ((i + 1 : Nat) : Int), ()), (p, ()))) := by
  unfold ref22_Rule_6
  refine (loopK_find (fun j : Nat => ((l, o, (i : Int), (j : Int), ()), (p, ()))) (fun j => hasB (B.getD j bz) p o) (fun _ => .rt (((i : Int), true, ()), ())) (n := B.length) (e := ((l, o, (i : Int), ()), (p, ()))) ?_ ?_ ?_ (by omega)).trans ?_
  · intro j hj hq
    show ref22_Rule_s7 N l o (i : Int) (j : Int) p = _
    unfold ref22_Rule_s7
    simp only [inRN hi, Int.toNat_natCast, cond_true, hlB]
    rw [dpos (show (j : Int) < (B.length : Int) by omega), inRN hj, w64_of (by omega) (by omega)]
    simp only [cond_true]
    rw [rhas_ok N (hb _ (getD_mem hj _)), Option.bind_some]
    simp only [hq, cond_false]
    rfl
  · intro j hj hq
    show ref22_Rule_s7 N l o (i : Int) (j : Int) p = _
    unfold ref22_Rule_s7
    simp only [inRN hi, Int.toNat_natCast, cond_true, hlB]
    rw [dpos (show (j : Int) < (B.length : Int) by omega), inRN hj]
    simp only [cond_true]
    rw [rhas_ok N (hb _ (getD_mem hj _)), Option.bind_some]
    simp only [hq, cond_true]
  · show ref22_Rule_s7 N l o (i : Int) (B.length : Int) p = _
    unfold ref22_Rule_s7
    simp only [inRN hi, Int.toNat_natCast, cond_true, hlB]
    rw [dneg (by omega)]; rfl
  · have hany := firstAt_any (fun b => hasB b p o) B bz
    cases hf : firstAt (fun j => hasB (B.getD j bz) p o) 0 B.length with
    | none =>
      rw [hf] at hany
      rw [← hany]
      show ref22_Rule_8 N l o (i : Int) p = _
      unfold ref22_Rule_8
      rw [w64_of (by omega) (by omega)]; rfl
    | some j =>
      rw [hf] at hany
      rw [← hany]; rfl
theorem rrule_p (l : List Rl) (hl : l.length ≤ 1000000) (hB : ∀ r ∈ l, r.2.2.1.length ≤ 1000000 ∧ ∀ b ∈ r.2.2.1, BOk b) (p : Pk) (o : Bool) : ref22_Rule N l p o = some (((ruleV l p o).1, (ruleV l p o).2, ()), ()) := by
  unfold ref22_Rule ref22_Rule_1
  have step : ∀ i, i < l.length → ref22_Rule_s2 N l o (i : Int) p = some (if hasR (l.getD i rz) p o = true then .rt (((i : Int), true, ()), ()) else .go ((l, o, ((i + 1 : Nat) : Int), ()), (p, ()))) := by
    intro i hi
    unfold ref22_Rule_s2
    rw [dpos (show (i : Int) < (l.length : Int) by omega), cond_true]
    unfold ref22_Rule_3 ref22_Rule_5
    have h := hB _ (getD_mem hi rz)
    exact rrule_6 N hN l hl hi rfl h.1 h.2 p o
  refine (loopK_find (fun i : Nat => ((l, o, (i : Int), ()), (p, ()))) (fun i => hasR (l.getD i rz) p o) (fun i => (((i : Int), true, ()), ())) (n := l.length) (e := ((), ())) ?_ ?_ ?_ (by omega)).trans ?_
  · intro i hi hq
    refine (step i hi).trans ?_
    rw [hq]; rfl
  · intro i hi hq
    refine (step i hi).trans ?_
    rw [hq]; rfl
  · show ref22_Rule_s2 N l o (l.length : Int) p = _
    unfold ref22_Rule_s2
    rw [dneg (by omega)]; rfl
  · unfold ruleV ruleF
    cases firstAt (fun i => hasR (l.getD i rz) p o) 0 l.length <;> rfl
end
end Go.Proofs.Ytgbkkfpheahdfaa.Pl

/- Plain: what the document's entries of rules are. -/
namespace Go.Proofs.Ytgbkkfpheahdfaa.Pl
open Go
def subF : List En → List Bx → Option (List Bx)
  | [], ps => some ps
  | e :: es, ps => if 400 < (ps.flatMap fun p => mns p e.1).length then none else subF es (ps.flatMap fun p => mns p e.1)
def tag (i : Int) (ps : List Bx) : List En := ps.map fun p => (p, i, ())
def boxE (i : Int) : List Bx → List En → Option (List En)
  | [], out => some out
  | b :: bs, out => match subF out [b] with
    | none => none
    | some ps => if 400 < (out ++ tag i ps).length then none else boxE i bs (out ++ tag i ps)
def ruleE : Nat → List Rl → List En → Option (List En)
  | _, [], out => some out
  | i, r :: rs, out => match boxE (i : Int) r.2.2.1 out with
    | none => none
    | some o => ruleE (i + 1) rs o
def EOk (es : List En) : Prop := ∀ e ∈ es, BOk e.1
theorem mns_bok {a b : Bx} (ha : BOk a) : ∀ x ∈ mns a b, BOk x := by
  obtain ⟨f, hf, na, e⟩ := bok_np ha
  intro x hx
  rw [mns_map a b e] at hx
  obtain ⟨p, hp, rfl⟩ := List.mem_map.1 hx
  exact np_bok hf (mnP_np (ofB b) na p hp)
theorem mns_le (a b : Bx) : (mns a b).length ≤ 10 := by
  unfold mns
  split
  · exact outK_len _ _ 5
  · simp
theorem flatMap_le (b : Bx) : ∀ ps : List Bx, (ps.flatMap fun p => mns p b).length ≤ 10 * ps.length
  | [] => by simp
  | p :: ps => by
    have h1 := mns_le p b
    have h2 := flatMap_le b ps
    rw [List.flatMap_cons, List.length_append, List.length_cons]; omega
theorem flatMap_bok {b : Bx} {ps : List Bx} (h : ∀ p ∈ ps, BOk p) : ∀ p ∈ (ps.flatMap fun p => mns p b), BOk p := by
  intro x hx
  obtain ⟨p, hp, hx⟩ := List.mem_flatMap.1 hx
  exact mns_bok (h p hp) x hx
theorem subF_ok : ∀ {es : List En} {ps ps' : List Bx}, subF es ps = some ps' → (∀ p ∈ ps, BOk p) → ps.length ≤ 400 → (∀ p ∈ ps', BOk p) ∧ ps'.length ≤ 400
  | [], ps, ps', h, h1, h2 => by simp only [subF] at h; cases h; exact ⟨h1, h2⟩
  | e :: es, ps, ps', h, h1, h2 => by
    simp only [subF] at h
    split at h
    · cases h
    · exact subF_ok h (flatMap_bok h1) (by omega)
theorem tag_ok {i : Int} {ps : List Bx} (h : ∀ p ∈ ps, BOk p) : EOk (tag i ps) := by
  intro e he
  obtain ⟨p, hp, rfl⟩ := List.mem_map.1 he
  exact h p hp
theorem eok_app {a b : List En} (h : EOk a) (h' : EOk b) : EOk (a ++ b) := fun e he => (List.mem_append.1 he).elim (h e) (h' e)
theorem boxE_ok {i : Int} : ∀ {bs : List Bx} {out o : List En}, boxE i bs out = some o → (∀ b ∈ bs, BOk b) → EOk out → out.length ≤ 400 → EOk o ∧ o.length ≤ 400
  | [], out, o, h, _, h1, h2 => by simp only [boxE] at h; cases h; exact ⟨h1, h2⟩
  | b :: bs, out, o, h, hb, h1, h2 => by
    simp only [boxE] at h
    split at h
    · cases h
    · rename_i ps hps
      have hp := subF_ok hps (fun p hp => by obtain rfl := List.mem_singleton.1 hp; exact hb _ (by simp)) (by simp)
      split at h
      · cases h
      · exact boxE_ok h (fun b' hb' => hb b' (by simp [hb'])) (eok_app h1 (tag_ok hp.1)) (by omega)
theorem ruleE_ok : ∀ {rs : List Rl} {i : Nat} {out o : List En}, ruleE i rs out = some o → (∀ r ∈ rs, ∀ b ∈ r.2.2.1, BOk b) → EOk out → out.length ≤ 400 → EOk o ∧ o.length ≤ 400
  | [], i, out, o, h, _, h1, h2 => by simp only [ruleE] at h; cases h; exact ⟨h1, h2⟩
  | r :: rs, i, out, o, h, hb, h1, h2 => by
    simp only [ruleE] at h
    split at h
    · cases h
    · rename_i o' ho'
      have hp := boxE_ok ho' (hb r (by simp)) h1 h2
      exact ruleE_ok h (fun r' hr' => hb r' (by simp [hr'])) hp.1 hp.2
theorem take_flat {α β : Type} (f : α → List β) {l : List α} {i : Nat} (h : i < l.length) : (l.take (i + 1)).flatMap f = (l.take i).flatMap f ++ f l[i] := by
  rw [← List.take_append_getElem h, List.flatMap_append, List.flatMap_cons, List.flatMap_nil, List.append_nil]
theorem take_map {α β : Type} (f : α → β) {l : List α} {i : Nat} (h : i < l.length) : (l.take (i + 1)).map f = (l.take i).map f ++ [f l[i]] := by
  rw [← List.take_append_getElem h, List.map_append, List.map_cons, List.map_nil]
def entL (l : List Rl) : List En × Int := match ruleE 0 l [] with
  | none => ([], 10)
  | some o => (o, 0)
section
variable (N : Nat) (hN : 4611686018427387904 ≤ N)
include hN
theorem rents_16 (l : List Rl) (i k : Int) {j : Nat} {out : List En} (ho : EOk out) (hol : out.length ≤ 1000) (hj : j < out.length) {ps : List Bx} (hp : ∀ p ∈ ps, BOk p) (hpl : ps.length ≤ 400) :
    ref20_Entries_16 N l i k (j : Int) 0 out ps [] = ref20_Entries_18 N l i k (j : Int) out (ps.flatMap fun p => mns p out[j].1) := by
  unfold ref20_Entries_16
  refine (loopK_run (fun q : Nat => ((l, i, k, (j : Int), (q : Int), ()), (out, ps, (ps.take q).flatMap (fun p => mns p out[j].1), ()))) (n := ps.length) ?_ (e := ((l, i, k, (j : Int), ()), (out, (ps.flatMap fun p => mns p out[j].1), ()))) ?_ (by omega)).trans rfl
  · intro q hq
    show ref20_Entries_s17 N l i k (j : Int) (q : Int) out ps ((ps.take q).flatMap fun p => mns p out[j].1) = _
    unfold ref20_Entries_s17
    have hg : ps.getD q bz = ps[q] := by rw [List.getD, List.getElem?_eq_getElem hq]; rfl
    have hg2 : out.getD j ez = out[j] := by rw [List.getD, List.getElem?_eq_getElem hj]; rfl
    have h1 := flatMap_le out[j].1 (ps.take q)
    have h2 := mns_le ps[q] out[j].1
    rw [List.length_take] at h1
    rw [dpos (show (q : Int) < (ps.length : Int) by omega), inRN hq, inRN hj, w64_of (by omega) (by omega)]
    simp only [cond_true, Int.toNat_natCast, hg, hg2]
    rw [rminus_ok N hN (hp _ (List.getElem_mem hq)) (ho _ (List.getElem_mem hj)), Option.bind_some]
    rw [take_flat _ hq]
    simp only []
    rw [room_of (by omega)]
    rfl
  · show ref20_Entries_s17 N l i k (j : Int) (ps.length : Int) out ps ((ps.take ps.length).flatMap fun p => mns p out[j].1) = _
    unfold ref20_Entries_s17
    rw [dneg (by omega), List.take_length]; rfl
theorem rents_12 (l : List Rl) (i k : Int) {out : List En} (ho : EOk out) (hol : out.length ≤ 1000) : ∀ (n j M : Nat) (ps : List Bx), j + n = out.length → n < M → (∀ p ∈ ps, BOk p) → ps.length ≤ 400 →
    loopK M (fun y => ref20_Entries_s12 N y.1.1 y.1.2.1 y.1.2.2.1 y.1.2.2.2.1 y.2.1 y.2.2.1) (fun (e : (((List Rl) × Int × Int × Unit) × ((List En) × (List Bx) × Unit))) => ref20_Entries_20 N e.1.1 e.1.2.1 e.1.2.2.1 e.2.1 e.2.2.1) ((l, i, k, (j : Int), ()), (out, ps, ())) =
      match subF (out.drop j) ps with
      | none => some (.rt (.rt ((10, ()), ([], ()))))
      | some ps' => ref20_Entries_20 N l i k out ps'
  | 0, j, M, ps, hjn, hM, hp, hpl => by
    obtain ⟨M, rfl⟩ : ∃ m, M = m + 1 := ⟨M - 1, by omega⟩
    rw [loopK_succ]
    have e : ref20_Entries_s12 N l i k (j : Int) out ps = some (.br ((l, i, k, ()), (out, ps, ()))) := by
      unfold ref20_Entries_s12
      rw [dneg (by omega)]; rfl
    show (ref20_Entries_s12 N l i k (j : Int) out ps).bind _ = _
    rw [e, List.drop_eq_nil_of_le (by omega)]
    rfl
  | n + 1, j, M, ps, hjn, hM, hp, hpl => by
    obtain ⟨M, rfl⟩ : ∃ m, M = m + 1 := ⟨M - 1, by omega⟩
    have hj : j < out.length := by omega
    rw [loopK_succ]
    show (ref20_Entries_s12 N l i k (j : Int) out ps).bind _ = _
    rw [List.drop_eq_getElem_cons hj]
    unfold ref20_Entries_s12 subF
    rw [dpos (show (j : Int) < (out.length : Int) by omega), cond_true]
    unfold ref20_Entries_13 ref20_Entries_15
    rw [rents_16 N hN l i k ho hol hj hp hpl]
    unfold ref20_Entries_18
    by_cases h4 : 400 < (ps.flatMap fun p => mns p out[j].1).length
    · rw [dpos (show (400 : Int) < ((ps.flatMap fun p => mns p out[j].1).length : Int) by omega), if_pos h4]; rfl
    · rw [dneg (show ¬ (400 : Int) < ((ps.flatMap fun p => mns p out[j].1).length : Int) by omega), if_neg h4, cond_false]
      unfold ref20_Entries_19
      rw [w64_of (by omega) (by omega)]
      exact rents_12 l i k ho hol n (j + 1) M _ (by omega) (by omega) (flatMap_bok hp) (by omega)
theorem rents_21 (l : List Rl) (i k : Int) {out : List En} (hol : out.length ≤ 1000) {ps : List Bx} (hpl : ps.length ≤ 400) : ref20_Entries_21 N l i k 0 out ps = ref20_Entries_23 N l i k (out ++ tag i ps) := by
  unfold ref20_Entries_21
  have h0 : out = out ++ (ps.take 0).map (fun p => ((p, i, ()) : En)) := by simp
  refine Eq.trans ?_ ((loopK_run (step := fun y => ref20_Entries_s22 N y.1.1 y.1.2.1 y.1.2.2.1 y.1.2.2.2.1 y.2.1 y.2.2.1) (J := fun (e : (((List Rl) × Int × Int × Unit) × ((List En) × Unit))) => ref20_Entries_23 N e.1.1 e.1.2.1 e.1.2.2.1 e.2.1) (fun q : Nat => ((l, i, k, (q : Int), ()), (out ++ (ps.take q).map (fun p => ((p, i, ()) : En)), ps, ()))) (n := ps.length) ?_ (e := ((l, i, k, ()), (out ++ tag i ps, ()))) ?_ (show ps.length < N by omega)).trans rfl)
  · simp
  · intro q hq
    show ref20_Entries_s22 N l i k (q : Int) (out ++ (ps.take q).map (fun p => ((p, i, ()) : En))) ps = _
    unfold ref20_Entries_s22
    have hg : ps.getD q bz = ps[q] := by rw [List.getD, List.getElem?_eq_getElem hq]; rfl
    rw [dpos (show (q : Int) < (ps.length : Int) by omega), inRN hq, w64_of (by omega) (by omega)]
    simp only [cond_true, Int.toNat_natCast, hg]
    rw [room_of (by simp only [List.length_append, List.length_map, List.length_take, List.length_cons, List.length_nil]; omega), take_map _ hq, ← List.append_assoc]
    rfl
  · show ref20_Entries_s22 N l i k (ps.length : Int) (out ++ (ps.take ps.length).map (fun p => ((p, i, ()) : En))) ps = _
    unfold ref20_Entries_s22
    rw [dneg (by omega), List.take_length]; rfl
theorem rents_7 (l : List Rl) {i : Nat} (hi : i < l.length) {B : List Bx} (hB : (l.getD i rz).2.2.1 = B) (hb : ∀ b ∈ B, BOk b) (hBl : B.length ≤ 1000) : ∀ (n k M : Nat) (out : List En), k + n = B.length → n < M → EOk out → out.length ≤ 400 →
    loopK M (fun y => ref20_Entries_s7 N y.1.1 y.1.2.1 y.1.2.2.1 y.2.1) (fun (e : (((List Rl) × Int × Unit) × ((List En) × Unit))) => ref20_Entries_25 N e.1.1 e.1.2.1 e.2.1) ((l, (i : Int), (k : Int), ()), (out, ())) =
      match boxE (i : Int) (B.drop k) out with
      | none => some (.rt ((10, ()), ([], ())))
      | some o => ref20_Entries_25 N l (i : Int) o
  | 0, k, M, out, hk, hM, ho, hol => by
    obtain ⟨M, rfl⟩ : ∃ m, M = m + 1 := ⟨M - 1, by omega⟩
    rw [loopK_succ]
    have e : ref20_Entries_s7 N l (i : Int) (k : Int) out = some (.br ((l, (i : Int), ()), (out, ()))) := by
      unfold ref20_Entries_s7
      simp only [inRN hi, Int.toNat_natCast, cond_true, hB]
      rw [dneg (by omega)]; rfl
    show (ref20_Entries_s7 N l (i : Int) (k : Int) out).bind _ = _
    rw [e, List.drop_eq_nil_of_le (by omega)]
    rfl
  | n + 1, k, M, out, hk, hM, ho, hol => by
    obtain ⟨M, rfl⟩ : ∃ m, M = m + 1 := ⟨M - 1, by omega⟩
    have hkB : k < B.length := by omega
    have hg : B.getD k bz = B[k] := by rw [List.getD, List.getElem?_eq_getElem hkB]; rfl
    have hbk := hb _ (List.getElem_mem hkB)
    have e : ref20_Entries_s7 N l (i : Int) (k : Int) out = match subF out [B[k]] with
        | none => some (.rt (.rt ((10, ()), ([], ()))))
        | some ps => if 400 < (out ++ tag (i : Int) ps).length then some (.rt (.rt ((10, ()), ([], ())))) else some (.go ((l, (i : Int), ((k + 1 : Nat) : Int), ()), (out ++ tag (i : Int) ps, ()))) := by
      unfold ref20_Entries_s7
      simp only [inRN hi, Int.toNat_natCast, cond_true, hB]
      rw [dpos (show (k : Int) < (B.length : Int) by omega), cond_true]
      unfold ref20_Entries_8 ref20_Entries_10
      simp only [inRN hi, Int.toNat_natCast, cond_true, hB, inRN hkB, hg]
      unfold ref20_Entries_11
      have h12 := rents_12 N hN l (i : Int) (k : Int) ho (by omega) out.length 0 N [B[k]] (by omega) (by omega) (fun p hp => by obtain rfl := List.mem_singleton.1 hp; exact hbk) (by simp)
      rw [List.drop_zero] at h12
      refine Eq.trans h12 ?_
      cases hs : subF out [B[k]] with
      | none => rfl
      | some ps =>
        have hps := subF_ok hs (fun p hp => by obtain rfl := List.mem_singleton.1 hp; exact hbk) (by simp)
        simp only []
        unfold ref20_Entries_20
        rw [rents_21 N hN l _ _ (by omega) hps.2]
        unfold ref20_Entries_23
        by_cases h4 : 400 < (out ++ tag (i : Int) ps).length
        · rw [dpos (show (400 : Int) < ((out ++ tag (i : Int) ps).length : Int) by omega), if_pos h4]; rfl
        · rw [dneg (show ¬ (400 : Int) < ((out ++ tag (i : Int) ps).length : Int) by omega), if_neg h4, cond_false]
          unfold ref20_Entries_24
          rw [w64_of (by omega) (by omega)]; rfl
    rw [loopK_succ]
    show (ref20_Entries_s7 N l (i : Int) (k : Int) out).bind _ = _
    rw [e, List.drop_eq_getElem_cons hkB]
    unfold boxE
    cases hs : subF out [B[k]] with
    | none => rfl
    | some ps =>
      have hps := subF_ok hs (fun p hp => by obtain rfl := List.mem_singleton.1 hp; exact hbk) (by simp)
      simp only []
      by_cases h4 : 400 < (out ++ tag (i : Int) ps).length
      · rw [if_pos h4, if_pos h4]; rfl
      · rw [if_neg h4, if_neg h4]
        exact rents_7 l hi hB hb hBl n (k + 1) M _ (by omega) (by omega) (eok_app ho (tag_ok hps.1)) (by omega)
theorem rents_2 (l : List Rl) (hl : l.length ≤ 1000) (hB : ∀ r ∈ l, r.2.2.1.length ≤ 1000 ∧ ∀ b ∈ r.2.2.1, BOk b) : ∀ (n i M : Nat) (out : List En), i + n = l.length → n < M → EOk out → out.length ≤ 400 →
    loopK M (fun y => ref20_Entries_s2 N y.1.1 y.1.2.1 y.2.1) (fun (e : ((Unit) × ((List En) × Unit))) => ref20_Entries_26 N e.2.1) ((l, (i : Int), ()), (out, ())) =
      match ruleE i (l.drop i) out with
      | none => some ((10, ()), ([], ()))
      | some o => some ((0, ()), (o, ()))
  | 0, i, M, out, hi, hM, ho, hol => by
    obtain ⟨M, rfl⟩ : ∃ m, M = m + 1 := ⟨M - 1, by omega⟩
    rw [loopK_succ]
    have e : ref20_Entries_s2 N l (i : Int) out = some (.br ((), (out, ()))) := by
      unfold ref20_Entries_s2
      rw [dneg (by omega)]; rfl
    show (ref20_Entries_s2 N l (i : Int) out).bind _ = _
    rw [e, List.drop_eq_nil_of_le (by omega)]
    rfl
  | n + 1, i, M, out, hi, hM, ho, hol => by
    obtain ⟨M, rfl⟩ : ∃ m, M = m + 1 := ⟨M - 1, by omega⟩
    have hil : i < l.length := by omega
    have hg : l.getD i rz = l[i] := by rw [List.getD, List.getElem?_eq_getElem hil]; rfl
    have hr := hB _ (List.getElem_mem hil)
    have e : ref20_Entries_s2 N l (i : Int) out = match boxE (i : Int) l[i].2.2.1 out with
        | none => some (.rt ((10, ()), ([], ())))
        | some o => some (.go ((l, ((i + 1 : Nat) : Int), ()), (o, ()))) := by
      unfold ref20_Entries_s2
      rw [dpos (show (i : Int) < (l.length : Int) by omega), cond_true]
      unfold ref20_Entries_3 ref20_Entries_5 ref20_Entries_6
      have h7 := rents_7 N hN l hil (B := l[i].2.2.1) (by rw [hg]) hr.2 hr.1 l[i].2.2.1.length 0 N out (by omega) (by omega) ho hol
      rw [List.drop_zero] at h7
      refine Eq.trans h7 ?_
      cases hs : boxE (i : Int) l[i].2.2.1 out with
      | none => rfl
      | some o =>
        simp only []
        unfold ref20_Entries_25
        rw [w64_of (by omega) (by omega)]; rfl
    rw [loopK_succ]
    show (ref20_Entries_s2 N l (i : Int) out).bind _ = _
    rw [e, List.drop_eq_getElem_cons hil]
    unfold ruleE
    cases hs : boxE (i : Int) l[i].2.2.1 out with
    | none => rfl
    | some o =>
      have ho' := boxE_ok hs hr.2 ho hol
      exact rents_2 l hl hB n (i + 1) M o (by omega) (by omega) ho'.1 ho'.2
theorem rents_1 (l : List Rl) (hl : l.length ≤ 1000) (hB : ∀ r ∈ l, r.2.2.1.length ≤ 1000 ∧ ∀ b ∈ r.2.2.1, BOk b) : ref20_Entries_1 N l 0 [] = some (((entL l).2, ()), ((entL l).1, ())) := by
  unfold ref20_Entries_1
  have h := rents_2 N hN l hl hB l.length 0 N [] (by omega) (by omega) (fun e he => by simp at he) (by simp)
  rw [List.drop_zero] at h
  refine Eq.trans h ?_
  unfold entL
  cases ruleE 0 l [] <;> rfl
end
end Go.Proofs.Ytgbkkfpheahdfaa.Pl

/- Plain: the program's check of rules finds nothing in rules that are right. -/
namespace Go.Proofs.Ytgbkkfpheahdfaa.Pl
open Go
theorem pless_ok (N : Nat) (a b : V) : selector_Less N a b = some ((decide (vk a < vk b), ()), ()) := by
  unfold selector_Less selector_point_less
  have e := vk_lt a b
  by_cases h1 : a.1 = b.1
  · by_cases h2 : a.2.1 = b.2.1
    · simp only [h1, h2, decide_true, dpos, dneg, w64_of, inR_of, room_of, tmod_of, cond_true, cond_false, Bool.and_self, Bool.and_true, Bool.true_and, Bool.and_false, Bool.false_and, Bool.not_true, Bool.not_false, Option.bind_some, List.length_cons, List.length_nil, Nat.zero_add]
      congr 3
      apply decide_eq_decide.2
      rw [e]
      constructor
      · intro h; exact .inr ⟨h1, .inr ⟨h2, h⟩⟩
      · rintro (h | ⟨_, h | ⟨_, h⟩⟩)
        · omega
        · rw [h2] at h; exact absurd h (UInt64.lt_irrefl _)
        · exact h
    · simp only [h1, dneg h2, decide_true, dpos, dneg, w64_of, inR_of, room_of, tmod_of, cond_true, cond_false, Bool.and_self, Bool.and_true, Bool.true_and, Bool.and_false, Bool.false_and, Bool.not_true, Bool.not_false, Option.bind_some, List.length_cons, List.length_nil, Nat.zero_add]
      congr 3
      apply decide_eq_decide.2
      rw [e]
      constructor
      · intro h; exact .inr ⟨h1, .inl h⟩
      · rintro (h | ⟨_, h | ⟨h, _⟩⟩)
        · omega
        · exact h
        · exact absurd h h2
  · simp only [dneg h1, dpos, dneg, w64_of, inR_of, room_of, tmod_of, cond_true, cond_false, Bool.and_self, Bool.and_true, Bool.true_and, Bool.and_false, Bool.false_and, Bool.not_true, Bool.not_false, Option.bind_some, List.length_cons, List.length_nil, Nat.zero_add]
    congr 3
    apply decide_eq_decide.2
    rw [e]
    constructor
    · intro h; exact .inl h
    · rintro (h | ⟨h, _⟩)
      · exact h
      · exact absurd h h1
theorem pvalid_ok (N : Nat) {f : Int} {a : V} (hf : f = 4 ∨ f = 6) (ha : AOk f a) : selector_Valid N a = some ((true, ()), ()) := by
  unfold selector_Valid
  obtain ⟨h1, h2⟩ := ha
  rcases hf with rfl | rfl
  · obtain ⟨h3, h4⟩ := h2 rfl
    rw [dneg (show ¬ a.1 = 6 by omega), dpos h1, dpos h3, dpos (show a.2.2.1 < (4294967296 : UInt64) from UInt64.lt_iff_toNat_lt.2 h4)]; rfl
  · rw [dpos h1]; rfl
theorem pnamed_ok (N : Nat) (hN : 4611686018427387904 ≤ N) {s : List UInt8} (h : goodN s) : policy_named N s = some ((true, ()), ()) := by
  obtain ⟨M, rfl⟩ : ∃ M, N = M + 20 := ⟨N - 20, by omega⟩
  rcases h with rfl | rfl | rfl <;> kernel_rfl
theorem pcheckbox_ok (N : Nat) (hN : 4611686018427387904 ≤ N) {b : Bx} (hb : BOk b) : policy_CheckBox N b = some ((0, ()), ()) := by
  obtain ⟨f, hf, nb, _⟩ := bok_np hb
  have hfam := fam_of nb
  obtain ⟨g, hg, s1, s2⟩ := hb.fam
  have hv1 := pvalid_ok N hg s1.1
  have hv2 := pvalid_ok N hg s1.2.1
  have hv3 := pvalid_ok N hg s2.1
  have hv4 := pvalid_ok N hg s2.2.1
  obtain ⟨p1, p2, p3⟩ := hb.proto
  obtain ⟨x, y, e1, x1, x2, x3⟩ := hb.lport
  obtain ⟨u, v, e2, u1, u2, u3⟩ := hb.rport
  have r0 := (nb.rng 0 (by omega)).2.1
  have r1 := (nb.rng 1 (by omega)).2.1
  have f1 : b.2.1.1 = b.1.1 := by rw [hfam.1, hfam.2.1]
  have f2 : b.2.2.1.1 = b.1.1 := by rw [hfam.1, hfam.2.2.1]
  have f3 : b.2.2.2.1.1 = b.1.1 := by rw [hfam.1, hfam.2.2.2]
  have l1 : ¬ vk b.2.1 < vk b.1 := by have : vk b.1 ≤ vk b.2.1 := r0; omega
  have l2 : ¬ vk b.2.2.2.1 < vk b.2.2.1 := by have : vk b.2.2.1 ≤ vk b.2.2.2.1 := r1; omega
  unfold policy_CheckBox policy_CheckBox_1
  have st : ∀ (k : Nat) (w : V), k < 4 → ([b.1, b.2.1, b.2.2.1, b.2.2.2.1] : List V).getD k v0 = w → selector_Valid N w = some ((true, ()), ()) → w.1 = b.1.1 →
      policy_CheckBox_s2 N 4 (k : Int) b [b.1, b.2.1, b.2.2.1, b.2.2.2.1] = some (.go ((4, ((k + 1 : Nat) : Int), ()), (b, [b.1, b.2.1, b.2.2.1, b.2.2.2.1], ()))) := by
    intro k w hk hw hv hf
    unfold policy_CheckBox_s2
    have e : ([b.1, b.2.1, b.2.2.1, b.2.2.2.1] : List V).getD k (0, 0, 0, ()) = w := hw
    have hr : inR (k : Int) ([b.1, b.2.1, b.2.2.1, b.2.2.2.1] : List V).length = true := inRN hk
    have hd : decide (((k : Nat) : Int) < (4 : Int)) = true := dpos (by omega)
    have hw' : w64 ((k : Int) + 1) = ((k + 1 : Nat) : Int) := by rw [w64_of (by omega) (by omega)]; rfl
    simp only [hd, hr, cond_true, cond_false, Int.toNat_natCast, e, hv, hf, Option.bind_some, decide_true, Bool.not_true, hw']
  refine (loopK_run (fun k : Nat => ((4, (k : Int), ()), (b, [b.1, b.2.1, b.2.2.1, b.2.2.2.1], ()))) (n := 4) ?_ (e := ((), (b, ()))) ?_ (by omega)).trans ?_
  · intro k hk
    have : k = 0 ∨ k = 1 ∨ k = 2 ∨ k = 3 := by omega
    rcases this with rfl | rfl | rfl | rfl
    · exact st 0 _ (by omega) rfl hv1 rfl
    · exact st 1 _ (by omega) rfl hv2 f1
    · exact st 2 _ (by omega) rfl hv3 f2
    · exact st 3 _ (by omega) rfl hv4 f3
  · rfl
  · show policy_CheckBox_3 N b = _
    unfold policy_CheckBox_3
    rw [pless_ok, pless_ok]
    simp only [Option.bind_some]
    rw [dneg l1, dneg l2, dneg (show ¬ b.2.2.2.2.1 < 0 by omega), dneg (show ¬ (255 : Int) < b.2.2.2.2.2.1 by omega), dneg (show ¬ b.2.2.2.2.2.1 < b.2.2.2.2.1 by omega)]
    simp only [cond_false]
    unfold policy_CheckBox_4 policy_CheckBox_5
    rw [cond_false, e1, e2]
    have pt : ∀ (k : Nat) (a c : Int), k < 2 → ([[x, y], [u, v]] : List (List Int)).getD k (List.replicate 2 0) = [a, c] → -1 ≤ a → a ≤ c → c ≤ 65535 → policy_CheckBox_s6 N 2 (k : Int) [[x, y], [u, v]] = some (.go ((2, ((k + 1 : Nat) : Int), ()), ([[x, y], [u, v]], ()))) := by
      intro k a c hk hg h1 h2 h3
      unfold policy_CheckBox_s6
      have hr : inR (k : Int) ([[x, y], [u, v]] : List (List Int)).length = true := inRN hk
      have hw' : w64 ((k : Int) + 1) = ((k + 1 : Nat) : Int) := by rw [w64_of (by omega) (by omega)]; rfl
      rw [dpos (show (k : Int) < 2 by omega), hr]
      simp only [cond_true, Int.toNat_natCast, hg, List.getD_cons_zero, List.getD_cons_succ, hw']
      rw [dneg (show ¬ a < -1 by omega), dneg (show ¬ (65535 : Int) < c by omega), dneg (show ¬ c < a by omega)]; rfl
    refine (loopK_run (fun k : Nat => ((2, (k : Int), ()), ([[x, y], [u, v]], ()))) (n := 2) ?_ (e := ((), ())) ?_ (by omega)).trans rfl
    · intro k hk
      have : k = 0 ∨ k = 1 := by omega
      rcases this with rfl | rfl
      · exact pt 0 x y (by omega) rfl x1 x2 x3
      · exact pt 1 u v (by omega) rfl u1 u2 u3
    · rfl
/-- Rules that the check passes. -/
structure ROk (r : Rl) : Prop where
  pos : 1 ≤ r.2.2.1.length
  len : r.2.2.1.length ≤ 16
  act : 0 ≤ r.1 ∧ r.1 ≤ 2
  tpl : (r.1 = 2 → goodN r.2.1) ∧ (r.1 ≠ 2 → r.2.1 = [])
  box : ∀ b ∈ r.2.2.1, BOk b
theorem RlOk.rok {r : Rl} (h : RlOk r) : ROk r := ⟨h.pos, by have := h.len; omega, h.act, h.tpl, h.box⟩
section
variable (N : Nat) (hN : 4611686018427387904 ≤ N)
include hN
theorem pcheck_6 (l : List Rl) {i : Nat} (hi : i < 1000) (x : Rl) (hx : ROk x) : policy_Check_6 N l (l.length : Int) (i : Int) x x.2.2.1 = some (.go ((l, (l.length : Int), ((i + 1 : Nat) : Int), ()), ())) := by
  have hl := hx.len
  unfold policy_Check_6 policy_Check_7
  refine (loopK_run (fun k : Nat => ((l, (l.length : Int), (i : Int), x.2.2.1, (x.2.2.1.length : Int), (k : Int), ()), ())) (n := x.2.2.1.length) ?_ (e := ((l, (l.length : Int), (i : Int), ()), ())) ?_ (by omega)).trans ?_
  · intro k hk
    show policy_Check_s8 N l (l.length : Int) (i : Int) x.2.2.1 (x.2.2.1.length : Int) (k : Int) = _
    unfold policy_Check_s8
    rw [dpos (show (k : Int) < (x.2.2.1.length : Int) by omega), inRN hk, w64_of (by omega) (by omega)]
    simp only [cond_true, Int.toNat_natCast]
    rw [pcheckbox_ok N hN (hx.box _ (getD_mem hk _)), Option.bind_some]
    rfl
  · show policy_Check_s8 N l (l.length : Int) (i : Int) x.2.2.1 (x.2.2.1.length : Int) (x.2.2.1.length : Int) = _
    unfold policy_Check_s8
    rw [dneg (by omega)]; rfl
  · show policy_Check_9 N l (l.length : Int) (i : Int) = _
    unfold policy_Check_9
    rw [w64_of (by omega) (by omega)]; rfl
theorem pcheck_5 (l : List Rl) {i : Nat} (hi : i < l.length) (hl : l.length ≤ 24) {x : Rl} (hg : l.getD i (0, [], [], ()) = x) (hx : ROk x) : policy_Check_5 N l (l.length : Int) (i : Int) = some (.go ((l, (l.length : Int), ((i + 1 : Nat) : Int), ()), ())) := by
  have h6 := pcheck_6 N hN l (i := i) (by omega) x hx
  have hlen := hx.len
  have hpos := hx.pos
  obtain ⟨a0, a2⟩ := hx.act
  unfold policy_Check_5
  rw [inRN hi]
  simp only [cond_true, Int.toNat_natCast, hg]
  have d0 : decide ((x.2.2.1.length : Int) = 0) = false := dneg (by omega)
  have d16 : decide ((16 : Int) < (x.2.2.1.length : Int)) = false := dneg (by omega)
  by_cases h2 : x.1 = 2
  · rw [dneg (show ¬ x.1 = 0 by omega), dneg (show ¬ x.1 = 1 by omega), dpos h2]
    simp only [Bool.not_true, Bool.not_false, cond_true, cond_false]
    rw [pnamed_ok N hN (hx.tpl.1 h2), Option.bind_some]
    simp only [Bool.not_true, cond_false, d0, d16]
    exact h6
  · have hn := hx.tpl.2 h2
    have dn : decide (x.2.1 = []) = true := dpos hn
    rw [dneg h2]
    by_cases h0 : x.1 = 0
    · rw [dpos h0]
      simp only [Bool.not_true, Bool.not_false, cond_true, cond_false, dn, d0, d16]
      exact h6
    · rw [dneg h0, dpos (show x.1 = 1 by omega)]
      simp only [Bool.not_true, Bool.not_false, cond_true, cond_false, dn, d0, d16]
      exact h6
theorem pcheck_ok {l : List Rl} (hl : l.length ≤ 24) (hr : ∀ r ∈ l, ROk r) : policy_Check N l = some ((0, ()), ()) := by
  unfold policy_Check
  rw [dneg (show ¬ (24 : Int) < (l.length : Int) by omega), cond_false]
  unfold policy_Check_1
  refine (loopK_run (fun i : Nat => ((l, (l.length : Int), (i : Int), ()), ())) (n := l.length) ?_ (e := ((), ())) ?_ (by omega)).trans rfl
  · intro i hi
    show policy_Check_s2 N l (l.length : Int) (i : Int) = _
    unfold policy_Check_s2
    rw [dpos (show (i : Int) < (l.length : Int) by omega), cond_true]
    unfold policy_Check_3
    exact pcheck_5 N hN l hi hl rfl (hr _ (getD_mem hi _))
  · show policy_Check_s2 N l (l.length : Int) (l.length : Int) = _
    unfold policy_Check_s2
    rw [dneg (by omega)]; rfl
end
end Go.Proofs.Ytgbkkfpheahdfaa.Pl

/- Plain: what the program's entries of rules are. -/
namespace Go.Proofs.Ytgbkkfpheahdfaa.Pl
open Go
theorem subF_len : ∀ {es : List En} {ps ps' : List Bx}, subF es ps = some ps' → ps.length ≤ 400 → ps'.length ≤ 400
  | [], ps, ps', h, h2 => by simp only [subF] at h; cases h; exact h2
  | e :: es, ps, ps', h, h2 => by
    simp only [subF] at h
    split at h
    · cases h
    · exact subF_len h (by omega)
theorem boxE_len {i : Int} : ∀ {bs : List Bx} {out o : List En}, boxE i bs out = some o → out.length ≤ 400 → o.length ≤ 400
  | [], out, o, h, h2 => by simp only [boxE] at h; cases h; exact h2
  | b :: bs, out, o, h, h2 => by
    simp only [boxE] at h
    split at h
    · cases h
    · split at h
      · cases h
      · exact boxE_len h (by omega)
section
variable (N : Nat) (hN : 4611686018427387904 ≤ N)
include hN
theorem pents_f1 (b : Bx) {ps : List Bx} (hpl : ps.length ≤ 400) : decorrelate_Entries_f1 N b ps = some ((decide (((ps.flatMap fun p => mns p b).length : Int) ≤ 400), ()), ((ps.flatMap fun p => mns p b), ())) := by
  unfold decorrelate_Entries_f1 decorrelate_Entries_f1_1
  refine (loopK_run (fun q : Nat => (((ps.length : Int), (q : Int), ()), (ps, b, (ps.take q).flatMap (fun p => mns p b), ()))) (n := ps.length) ?_ (e := ((), (ps, (ps.flatMap fun p => mns p b), ()))) ?_ (by omega)).trans rfl
  · intro q hq
    show decorrelate_Entries_f1_s2 N (ps.length : Int) (q : Int) ps b ((ps.take q).flatMap fun p => mns p b) = _
    unfold decorrelate_Entries_f1_s2
    have hg : ps.getD q bz = ps[q] := by rw [List.getD, List.getElem?_eq_getElem hq]; rfl
    have h1 := flatMap_le b (ps.take q)
    have h2 := mns_le ps[q] b
    rw [List.length_take] at h1
    rw [dpos (show (q : Int) < (ps.length : Int) by omega), inRN hq, w64_of (by omega) (by omega)]
    simp only [cond_true, Int.toNat_natCast, hg]
    rw [minus_ok N _ _ hN, Option.bind_some]
    rw [take_flat _ hq]
    simp only []
    rw [room_of (by omega)]
    rfl
  · show decorrelate_Entries_f1_s2 N (ps.length : Int) (ps.length : Int) ps b ((ps.take ps.length).flatMap fun p => mns p b) = _
    unfold decorrelate_Entries_f1_s2
    rw [dneg (by omega), List.take_length]; rfl
theorem pents_12 (i : Int) (l : List Rl) (a c : Int) (B : List Bx) (d k : Int) {out : List En} (hol : out.length ≤ 1000) : ∀ (n j M : Nat) (ps : List Bx), j + n = out.length → n < M → ps.length ≤ 400 →
    loopK M (fun y => decorrelate_Entries_s12 N y.1.1 y.1.2.1 y.1.2.2.1 y.1.2.2.2.1 y.1.2.2.2.2.1 y.1.2.2.2.2.2.1 y.1.2.2.2.2.2.2.1 y.1.2.2.2.2.2.2.2.1 y.1.2.2.2.2.2.2.2.2.1 y.2.1 y.2.2.1) (fun (e : ((Int × (List Rl) × Int × Int × (List Bx) × Int × Int × Unit) × ((List En) × (List Bx) × Unit))) => decorrelate_Entries_13 N e.1.1 e.1.2.1 e.1.2.2.1 e.1.2.2.2.1 e.1.2.2.2.2.1 e.1.2.2.2.2.2.1 e.1.2.2.2.2.2.2.1 e.2.1 e.2.2.1) ((i, l, a, c, B, d, k, (out.length : Int), (j : Int), ()), (out, ps, ())) =
      match subF (out.drop j) ps with
      | none => some (.rt (.rt ((10, ()), ([], ()))))
      | some ps' => decorrelate_Entries_13 N i l a c B d k out ps'
  | 0, j, M, ps, hjn, hM, hpl => by
    obtain ⟨M, rfl⟩ : ∃ m, M = m + 1 := ⟨M - 1, by omega⟩
    rw [loopK_succ]
    have e : decorrelate_Entries_s12 N i l a c B d k (out.length : Int) (j : Int) out ps = some (.br ((i, l, a, c, B, d, k, ()), (out, ps, ()))) := by
      unfold decorrelate_Entries_s12
      rw [dneg (by omega)]; rfl
    show (decorrelate_Entries_s12 N i l a c B d k (out.length : Int) (j : Int) out ps).bind _ = _
    rw [e, List.drop_eq_nil_of_le (by omega)]
    rfl
  | n + 1, j, M, ps, hjn, hM, hpl => by
    obtain ⟨M, rfl⟩ : ∃ m, M = m + 1 := ⟨M - 1, by omega⟩
    have hj : j < out.length := by omega
    have hg : out.getD j ez = out[j] := by rw [List.getD, List.getElem?_eq_getElem hj]; rfl
    have e : decorrelate_Entries_s12 N i l a c B d k (out.length : Int) (j : Int) out ps = if 400 < (ps.flatMap fun p => mns p out[j].1).length then some (.rt (.rt (.rt ((10, ()), ([], ()))))) else some (.go ((i, l, a, c, B, d, k, (out.length : Int), ((j + 1 : Nat) : Int), ()), (out, (ps.flatMap fun p => mns p out[j].1), ()))) := by
      unfold decorrelate_Entries_s12
      rw [dpos (show (j : Int) < (out.length : Int) by omega), inRN hj, w64_of (by omega) (by omega)]
      simp only [cond_true, Int.toNat_natCast, hg]
      rw [pents_f1 N hN _ hpl, Option.bind_some]
      by_cases h4 : 400 < (ps.flatMap fun p => mns p out[j].1).length
      · simp only [dneg (show ¬ ((ps.flatMap fun p => mns p out[j].1).length : Int) ≤ 400 by omega), if_pos h4, Bool.not_false, cond_true]
      · simp only [dpos (show ((ps.flatMap fun p => mns p out[j].1).length : Int) ≤ 400 by omega), if_neg h4, Bool.not_true, cond_false]
        rfl
    rw [loopK_succ]
    show (decorrelate_Entries_s12 N i l a c B d k (out.length : Int) (j : Int) out ps).bind _ = _
    rw [e, List.drop_eq_getElem_cons hj]
    unfold subF
    by_cases h4 : 400 < (ps.flatMap fun p => mns p out[j].1).length
    · rw [if_pos h4, if_pos h4]; rfl
    · rw [if_neg h4, if_neg h4]
      exact pents_12 i l a c B d k hol n (j + 1) M _ (by omega) (by omega) (by omega)
theorem pents_14 (i : Int) (l : List Rl) (a c : Int) (B : List Bx) (d k : Int) {out : List En} (hol : out.length ≤ 1000) {ps : List Bx} (hpl : ps.length ≤ 400) : decorrelate_Entries_14 N i l a c B d k (ps.length : Int) 0 out ps = decorrelate_Entries_16 N i l a c B d k (out ++ tag i ps) := by
  unfold decorrelate_Entries_14
  refine Eq.trans ?_ ((loopK_run (step := fun y => decorrelate_Entries_s15 N y.1.1 y.1.2.1 y.1.2.2.1 y.1.2.2.2.1 y.1.2.2.2.2.1 y.1.2.2.2.2.2.1 y.1.2.2.2.2.2.2.1 y.1.2.2.2.2.2.2.2.1 y.1.2.2.2.2.2.2.2.2.1 y.2.1 y.2.2.1) (J := fun (e : ((Int × (List Rl) × Int × Int × (List Bx) × Int × Int × Unit) × ((List En) × Unit))) => decorrelate_Entries_16 N e.1.1 e.1.2.1 e.1.2.2.1 e.1.2.2.2.1 e.1.2.2.2.2.1 e.1.2.2.2.2.2.1 e.1.2.2.2.2.2.2.1 e.2.1) (fun q : Nat => ((i, l, a, c, B, d, k, (ps.length : Int), (q : Int), ()), (out ++ (ps.take q).map (fun p => ((p, i, ()) : En)), ps, ()))) (n := ps.length) ?_ (e := ((i, l, a, c, B, d, k, ()), (out ++ tag i ps, ()))) ?_ (show ps.length < N by omega)).trans rfl)
  · simp
  · intro q hq
    show decorrelate_Entries_s15 N i l a c B d k (ps.length : Int) (q : Int) (out ++ (ps.take q).map (fun p => ((p, i, ()) : En))) ps = _
    unfold decorrelate_Entries_s15
    have hg : ps.getD q bz = ps[q] := by rw [List.getD, List.getElem?_eq_getElem hq]; rfl
    rw [dpos (show (q : Int) < (ps.length : Int) by omega), inRN hq, w64_of (by omega) (by omega)]
    simp only [cond_true, Int.toNat_natCast, hg]
    rw [room_of (by simp only [List.length_append, List.length_map, List.length_take, List.length_cons, List.length_nil]; omega), take_map _ hq, ← List.append_assoc]
    rfl
  · show decorrelate_Entries_s15 N i l a c B d k (ps.length : Int) (ps.length : Int) (out ++ (ps.take ps.length).map (fun p => ((p, i, ()) : En))) ps = _
    unfold decorrelate_Entries_s15
    rw [dneg (by omega), List.take_length]; rfl
theorem pents_7 (l : List Rl) {i : Nat} (hi : i < 1000) {B : List Bx} (hBl : B.length ≤ 1000) : ∀ (n k M : Nat) (out : List En), k + n = B.length → n < M → out.length ≤ 400 →
    loopK M (fun y => decorrelate_Entries_s7 N y.1.1 y.1.2.1 y.1.2.2.1 y.1.2.2.2.1 y.1.2.2.2.2.1 y.1.2.2.2.2.2.1 y.1.2.2.2.2.2.2.1 y.2.1) (fun (e : (((List Rl) × Int × Int × Unit) × ((List En) × Unit))) => decorrelate_Entries_18 N e.1.1 e.1.2.1 e.1.2.2.1 e.2.1) (((i : Int), l, (l.length : Int), (i : Int), B, (B.length : Int), (k : Int), ()), (out, ())) =
      match boxE (i : Int) (B.drop k) out with
      | none => some (.rt ((10, ()), ([], ())))
      | some o => decorrelate_Entries_18 N l (l.length : Int) (i : Int) o
  | 0, k, M, out, hk, hM, hol => by
    obtain ⟨M, rfl⟩ : ∃ m, M = m + 1 := ⟨M - 1, by omega⟩
    rw [loopK_succ]
    have e : decorrelate_Entries_s7 N (i : Int) l (l.length : Int) (i : Int) B (B.length : Int) (k : Int) out = some (.br ((l, (l.length : Int), (i : Int), ()), (out, ()))) := by
      unfold decorrelate_Entries_s7
      rw [dneg (by omega)]; rfl
    show (decorrelate_Entries_s7 N (i : Int) l (l.length : Int) (i : Int) B (B.length : Int) (k : Int) out).bind _ = _
    rw [e, List.drop_eq_nil_of_le (by omega)]
    rfl
  | n + 1, k, M, out, hk, hM, hol => by
    obtain ⟨M, rfl⟩ : ∃ m, M = m + 1 := ⟨M - 1, by omega⟩
    have hkB : k < B.length := by omega
    have hg : B.getD k bz = B[k] := by rw [List.getD, List.getElem?_eq_getElem hkB]; rfl
    have e : decorrelate_Entries_s7 N (i : Int) l (l.length : Int) (i : Int) B (B.length : Int) (k : Int) out = match subF out [B[k]] with
        | none => some (.rt (.rt ((10, ()), ([], ()))))
        | some ps => if 400 < (out ++ tag (i : Int) ps).length then some (.rt (.rt ((10, ()), ([], ())))) else some (.go (((i : Int), l, (l.length : Int), (i : Int), B, (B.length : Int), ((k + 1 : Nat) : Int), ()), (out ++ tag (i : Int) ps, ()))) := by
      unfold decorrelate_Entries_s7
      rw [dpos (show (k : Int) < (B.length : Int) by omega), cond_true]
      unfold decorrelate_Entries_8 decorrelate_Entries_10
      simp only [inRN hkB, Int.toNat_natCast, cond_true, hg]
      unfold decorrelate_Entries_11
      have h12 := pents_12 N hN (i : Int) l (l.length : Int) (i : Int) B (B.length : Int) (k : Int) (out := out) (by omega) out.length 0 N [B[k]] (by omega) (by omega) (by simp)
      rw [List.drop_zero] at h12
      refine Eq.trans h12 ?_
      cases hs : subF out [B[k]] with
      | none => rfl
      | some ps =>
        have hps := subF_len hs (by simp)
        simp only []
        unfold decorrelate_Entries_13
        rw [pents_14 N hN _ _ _ _ _ _ _ (by omega) hps]
        unfold decorrelate_Entries_16
        by_cases h4 : 400 < (out ++ tag (i : Int) ps).length
        · rw [dpos (show (400 : Int) < ((out ++ tag (i : Int) ps).length : Int) by omega), if_pos h4]; rfl
        · rw [dneg (show ¬ (400 : Int) < ((out ++ tag (i : Int) ps).length : Int) by omega), if_neg h4, cond_false]
          unfold decorrelate_Entries_17
          rw [w64_of (by omega) (by omega)]; rfl
    rw [loopK_succ]
    show (decorrelate_Entries_s7 N (i : Int) l (l.length : Int) (i : Int) B (B.length : Int) (k : Int) out).bind _ = _
    rw [e, List.drop_eq_getElem_cons hkB]
    unfold boxE
    cases hs : subF out [B[k]] with
    | none => rfl
    | some ps =>
      simp only []
      by_cases h4 : 400 < (out ++ tag (i : Int) ps).length
      · rw [if_pos h4, if_pos h4]; rfl
      · rw [if_neg h4, if_neg h4]
        exact pents_7 l hi hBl n (k + 1) M _ (by omega) (by omega) (by omega)
theorem pents_2 (l : List Rl) (hl : l.length ≤ 999) (hB : ∀ r ∈ l, r.2.2.1.length ≤ 1000) : ∀ (n i M : Nat) (out : List En), i + n = l.length → n < M → out.length ≤ 400 →
    loopK M (fun y => decorrelate_Entries_s2 N y.1.1 y.1.2.1 y.1.2.2.1 y.2.1) (fun (e : ((Unit) × ((List En) × Unit))) => decorrelate_Entries_19 N e.2.1) ((l, (l.length : Int), (i : Int), ()), (out, ())) =
      match ruleE i (l.drop i) out with
      | none => some ((10, ()), ([], ()))
      | some o => some ((0, ()), (o, ()))
  | 0, i, M, out, hi, hM, hol => by
    obtain ⟨M, rfl⟩ : ∃ m, M = m + 1 := ⟨M - 1, by omega⟩
    rw [loopK_succ]
    have e : decorrelate_Entries_s2 N l (l.length : Int) (i : Int) out = some (.br ((), (out, ()))) := by
      unfold decorrelate_Entries_s2
      rw [dneg (by omega)]; rfl
    show (decorrelate_Entries_s2 N l (l.length : Int) (i : Int) out).bind _ = _
    rw [e, List.drop_eq_nil_of_le (by omega)]
    rfl
  | n + 1, i, M, out, hi, hM, hol => by
    obtain ⟨M, rfl⟩ : ∃ m, M = m + 1 := ⟨M - 1, by omega⟩
    have hil : i < l.length := by omega
    have hg : l.getD i rz = l[i] := by rw [List.getD, List.getElem?_eq_getElem hil]; rfl
    have hr := hB _ (List.getElem_mem hil)
    have e : decorrelate_Entries_s2 N l (l.length : Int) (i : Int) out = match boxE (i : Int) l[i].2.2.1 out with
        | none => some (.rt ((10, ()), ([], ())))
        | some o => some (.go ((l, (l.length : Int), ((i + 1 : Nat) : Int), ()), (o, ()))) := by
      unfold decorrelate_Entries_s2
      rw [dpos (show (i : Int) < (l.length : Int) by omega), cond_true]
      unfold decorrelate_Entries_3 decorrelate_Entries_5
      rw [inRN hil]
      simp only [cond_true, Int.toNat_natCast, hg]
      unfold decorrelate_Entries_6
      have h7 := pents_7 N hN l (i := i) (by omega) (B := l[i].2.2.1) hr l[i].2.2.1.length 0 N out (by omega) (by omega) hol
      rw [List.drop_zero] at h7
      refine Eq.trans h7 ?_
      cases hs : boxE (i : Int) l[i].2.2.1 out with
      | none => rfl
      | some o =>
        simp only []
        unfold decorrelate_Entries_18
        rw [w64_of (by omega) (by omega)]; rfl
    rw [loopK_succ]
    show (decorrelate_Entries_s2 N l (l.length : Int) (i : Int) out).bind _ = _
    rw [e, List.drop_eq_getElem_cons hil]
    unfold ruleE
    cases hs : boxE (i : Int) l[i].2.2.1 out with
    | none => rfl
    | some o =>
      have ho' := boxE_len hs hol
      exact pents_2 l hl hB n (i + 1) M o (by omega) (by omega) ho'
theorem pents_ok {l : List Rl} (hl : l.length ≤ 24) (hr : ∀ r ∈ l, ROk r) : decorrelate_Entries N l = some (((entL l).2, ()), ((entL l).1, ())) := by
  unfold decorrelate_Entries
  rw [pcheck_ok N hN hl hr, Option.bind_some]
  simp only [decide_true, Bool.not_true, cond_false]
  unfold decorrelate_Entries_1
  have h := pents_2 N hN l (by omega) (fun r h => by have := (hr r h).len; omega) l.length 0 N [] (by omega) (by omega) (by simp)
  rw [List.drop_zero] at h
  refine Eq.trans h ?_
  unfold entL
  cases ruleE 0 l [] <;> rfl
end
end Go.Proofs.Ytgbkkfpheahdfaa.Pl

/- Plain: which entry has a packet. -/
namespace Go.Proofs.Ytgbkkfpheahdfaa.Pl
open Go
theorem getD_at' {α : Type} {l : List α} {i : Nat} (h : i < l.length) (d : α) : l.getD i d = l[i] := by rw [List.getD, List.getElem?_eq_getElem h]; rfl
def hx (x : Nat → Int) (b : Bx) : Bool := hasP (ofB b) x
theorem hx_map {x : Nat → Int} {f : Int} : ∀ {q : List Pr}, (∀ p ∈ q, NP f p) → (q.map bxOf).countP (hx x) = cnt q x
  | [], _ => rfl
  | p :: q, h => by
    have h1 := hx_map (x := x) (q := q) fun p' hp' => h p' (by simp [hp'])
    have h2 : hx x (bxOf p) = hasP p x := by unfold hx; rw [of_bx (h p (by simp))]
    unfold cnt at *
    rw [List.map_cons, List.countP_cons, List.countP_cons, h1, h2]
theorem mns_hx {a : Bx} (ha : BOk a) (b : Bx) (x : Nat → Int) : (mns a b).countP (hx x) + (hx x a && hx x b).toNat = (hx x a).toNat := by
  obtain ⟨f, hf, na, e⟩ := bok_np ha
  rw [mns_map a b e, hx_map (mnP_np (ofB b) na)]
  exact mnP_cnt (ofB b) na x
theorem flat_hx (b : Bx) (x : Nat → Int) : ∀ {ps : List Bx}, (∀ p ∈ ps, BOk p) → (ps.flatMap fun p => mns p b).countP (hx x) = if hx x b = true then 0 else ps.countP (hx x)
  | [], _ => by simp
  | p :: ps, h => by
    have h1 := mns_hx (h p (by simp)) b x
    have h2 := flat_hx b x (ps := ps) fun p' hp' => h p' (by simp [hp'])
    rw [List.flatMap_cons, List.countP_append, h2, List.countP_cons]
    cases hb : hx x b <;> cases hp : hx x p <;> rw [hb, hp] at h1 <;> simp at h1 ⊢ <;> omega
theorem subF_hx (x : Nat → Int) : ∀ {es : List En} {ps ps' : List Bx}, subF es ps = some ps' → (∀ p ∈ ps, BOk p) → ps'.countP (hx x) = if 0 < es.countP (fun e => hx x e.1) then 0 else ps.countP (hx x)
  | [], ps, ps', h, _ => by simp only [subF] at h; cases h; simp
  | e :: es, ps, ps', h, hp => by
    simp only [subF] at h
    split at h
    · cases h
    · have h1 := subF_hx x h (flatMap_bok hp)
      rw [h1, flat_hx e.1 x hp, List.countP_cons]
      cases he : hx x e.1 <;> simp
/-- What the entries so far say of a point, where r is the first rule that has it. -/
def St (x : Nat → Int) (out : List En) (r : Option Nat) : Prop := out.countP (fun e => hx x e.1) = r.isSome.toNat ∧ ∀ e ∈ out, hx x e.1 = true → r = some e.2.1.toNat ∧ 0 ≤ e.2.1
theorem tag_cnt (x : Nat → Int) (i : Int) : ∀ ps : List Bx, (tag i ps).countP (fun e => hx x e.1) = ps.countP (hx x)
  | [] => rfl
  | p :: ps => by
    have := tag_cnt x i ps
    unfold tag at *
    rw [List.map_cons, List.countP_cons, List.countP_cons, this]
theorem cnt0 {α : Type} {q : α → Bool} {l : List α} (h : l.countP q = 0) : ∀ a ∈ l, q a = false := by
  intro a ha
  have := List.countP_eq_zero.1 h a ha
  simpa using this
theorem st_step {x : Nat → Int} {out : List En} {r : Option Nat} (hs : St x out r) {b : Bx} (hb : BOk b) {ps : List Bx} (hp : subF out [b] = some ps) (i : Nat) :
    St x (out ++ tag (i : Int) ps) (r.or (if hx x b = true then some i else none)) := by
  obtain ⟨h1, h2⟩ := hs
  have h3 := subF_hx x hp (fun p hp => by obtain rfl := List.mem_singleton.1 hp; exact hb)
  have h4 := tag_cnt x (i : Int) ps
  have h5 : [b].countP (hx x) = (hx x b).toNat := by rw [List.countP_cons, List.countP_nil]; cases hx x b <;> rfl
  rw [h5] at h3
  cases r with
  | some k =>
    have h1' : out.countP (fun e => hx x e.1) = 1 := h1
    rw [if_pos (by omega)] at h3
    rw [h3] at h4
    refine ⟨by rw [List.countP_append, h1', h4]; rfl, fun e he hx' => ?_⟩
    rcases List.mem_append.1 he with he | he
    · exact h2 e he hx'
    · have := cnt0 h4 e he
      simp only [hx'] at this
      cases this
  | none =>
    have h1' : out.countP (fun e => hx x e.1) = 0 := h1
    rw [if_neg (by omega)] at h3
    rw [h3] at h4
    rw [Option.none_or]
    refine ⟨by rw [List.countP_append, h1', h4]; cases hx x b <;> rfl, fun e he hx' => ?_⟩
    rcases List.mem_append.1 he with he | he
    · have := cnt0 h1' e he
      simp only [hx'] at this
      cases this
    · have hbt : hx x b = true := by
        cases hbx : hx x b with
        | true => rfl
        | false =>
          rw [hbx] at h4
          have := cnt0 h4 e he
          simp only [hx'] at this
          cases this
      obtain ⟨p, _, rfl⟩ := List.mem_map.1 he
      rw [if_pos hbt]
      exact ⟨by simp, by simp⟩
theorem st_box {x : Nat → Int} (i : Nat) : ∀ {bs : List Bx} {out o : List En} {r : Option Nat}, boxE (i : Int) bs out = some o → (∀ b ∈ bs, BOk b) → St x out r → St x o (r.or (if bs.any (hx x) = true then some i else none))
  | [], out, o, r, h, _, hs => by
    simp only [boxE] at h; cases h
    rw [List.any_nil, if_neg (by decide), Option.or_none]; exact hs
  | b :: bs, out, o, r, h, hb, hs => by
    simp only [boxE] at h
    split at h
    · cases h
    · rename_i ps hps
      split at h
      · cases h
      · have h1 := st_box i h (fun b' hb' => hb b' (by simp [hb'])) (st_step hs (hb b (by simp)) hps i)
        rw [List.any_cons]
        cases r with
        | some k => exact h1
        | none =>
          rw [Option.none_or] at h1 ⊢
          cases hbx : hx x b with
          | true => rw [hbx, if_pos rfl, Option.some_or] at h1; rw [Bool.true_or, if_pos rfl]; exact h1
          | false => rw [hbx, if_neg (by decide), Option.none_or] at h1; rw [Bool.false_or]; exact h1
def rF (x : Nat → Int) (l : List Rl) (i n : Nat) : Option Nat := firstAt (fun i => (l.getD i rz).2.2.1.any (hx x)) i n
theorem st_rule {x : Nat → Int} {l : List Rl} (hl : ∀ r ∈ l, ∀ b ∈ r.2.2.1, BOk b) : ∀ {n i : Nat} {out o : List En} {r : Option Nat}, i + n = l.length → ruleE i (l.drop i) out = some o → St x out r → St x o (r.or (rF x l i n))
  | 0, i, out, o, r, hi, h, hs => by
    rw [List.drop_eq_nil_of_le (by omega)] at h
    simp only [ruleE] at h; cases h
    unfold rF firstAt
    rw [Option.or_none]; exact hs
  | n + 1, i, out, o, r, hi, h, hs => by
    have hil : i < l.length := by omega
    rw [List.drop_eq_getElem_cons hil] at h
    simp only [ruleE] at h
    split at h
    · cases h
    · rename_i o' ho'
      have h1 := st_rule hl (n := n) (i := i + 1) (by omega) h (st_box i ho' (hl _ (List.getElem_mem hil)) hs)
      unfold rF at h1 ⊢
      unfold firstAt
      simp only [getD_at' hil]
      cases r with
      | some k => exact h1
      | none =>
        rw [Option.none_or] at h1 ⊢
        cases hbx : l[i].2.2.1.any (hx x) with
        | true => rw [hbx, if_pos rfl, Option.some_or] at h1; rw [if_pos rfl]; exact h1
        | false => rw [hbx, if_neg (by decide), Option.none_or] at h1; rw [if_neg (by decide)]; exact h1
theorem st_ent {l : List Rl} (hl : ∀ r ∈ l, ∀ b ∈ r.2.2.1, BOk b) {es : List En} (h : entL l = (es, 0)) (x : Nat → Int) : St x es (rF x l 0 l.length) := by
  unfold entL at h
  have h0 : St x [] none := ⟨rfl, fun e he => by simp at he⟩
  cases hr : ruleE 0 l [] with
  | none => rw [hr] at h; simp at h
  | some o =>
    rw [hr] at h
    simp only [Prod.mk.injEq, and_true] at h
    subst h
    have := st_rule hl (n := l.length) (i := 0) (by omega) (by rw [List.drop_zero]; exact hr) h0
    rw [Option.none_or] at this
    exact this
theorem ent_err (l : List Rl) : (entL l).2 = 0 ∨ (entL l).2 = 10 := by
  unfold entL
  cases ruleE 0 l []
  · exact .inr rfl
  · exact .inl rfl
theorem ent_good {l : List Rl} (hl : ∀ r ∈ l, ∀ b ∈ r.2.2.1, BOk b) {es : List En} (h : entL l = (es, 0)) : EOk es ∧ es.length ≤ 400 := by
  unfold entL at h
  cases hr : ruleE 0 l [] with
  | none => rw [hr] at h; simp at h
  | some o =>
    rw [hr] at h
    simp only [Prod.mk.injEq, and_true] at h
    subst h
    exact ruleE_ok hr hl (fun x hx => by simp at hx) (by simp)
theorem rF_ruleF (l : List Rl) (p : Pk) (o : Bool) : rF (pt (turn p o)) l 0 l.length = ruleF l p o := rfl
/-- The entries agree with the rules at a packet. -/
theorem ent_rule {l : List Rl} (hl : ∀ r ∈ l, ∀ b ∈ r.2.2.1, BOk b) {es : List En} (h : entL l = (es, 0)) (p : Pk) (o : Bool) :
    (entF es p o = none ∧ ruleF l p o = none) ∨ ∃ k i, entF es p o = some k ∧ k < es.length ∧ ruleF l p o = some i ∧ (es.getD k ez).2.1 = (i : Int) := by
  obtain ⟨h1, h2⟩ := st_ent hl h (pt (turn p o))
  rw [rF_ruleF] at h1 h2
  cases hr : ruleF l p o with
  | none =>
    rw [hr] at h1
    have h3 := cnt0 h1
    refine .inl ⟨firstAt_none.2 fun i _ hi => ?_, rfl⟩
    rw [getD_at' (by omega)]
    exact h3 _ (List.getElem_mem _)
  | some i =>
    rw [hr] at h1 h2
    have h1' : 0 < es.countP (fun e => hx (pt (turn p o)) e.1) := by rw [h1]; exact Nat.one_pos
    obtain ⟨e, he, hxe⟩ := List.countP_pos_iff.1 h1'
    obtain ⟨k, hk, rfl⟩ := List.getElem_of_mem he
    have hs : (entF es p o).isSome = true := firstAt_isSome.2 ⟨k, hk, by rw [getD_at' hk]; exact hxe⟩
    obtain ⟨k', hk'⟩ := Option.isSome_iff_exists.1 hs
    obtain ⟨_, q2, q3, _⟩ := firstAt_some.1 hk'
    have q2 : k' < es.length := by omega
    refine .inr ⟨k', i, hk', q2, rfl, ?_⟩
    rw [getD_at' q2] at q3 ⊢
    obtain ⟨e1, e2⟩ := h2 _ (List.getElem_mem q2) q3
    have e1 := Option.some.inj e1
    omega
/-- No point has two entries. -/
theorem ent_apart {l : List Rl} (hl : ∀ r ∈ l, ∀ b ∈ r.2.2.1, BOk b) {es : List En} (h : entL l = (es, 0)) {i j : Nat} (hij : i < j) (hj : j < es.length) : okL (ofB (es.getD j ez).1) (ofB (es.getD i ez).1) = false := by
  refine apart_of (l := es.map fun e => ofB e.1) ?_ hij (by rw [List.getElem?_map, List.getElem?_eq_getElem (by omega), getD_at' (by omega)]; rfl) (by rw [List.getElem?_map, List.getElem?_eq_getElem hj, getD_at' hj]; rfl)
  intro x
  have h1 := (st_ent hl h x).1
  have h2 : cnt (es.map fun e => ofB e.1) x = es.countP (fun e => hx x e.1) := by unfold cnt; rw [List.countP_map]; rfl
  rw [h2, h1]
  exact Bool.toNat_le _
end Go.Proofs.Ytgbkkfpheahdfaa.Pl

/- Plain: the law DecorrelateAgrees. -/
namespace Go.Proofs.Ytgbkkfpheahdfaa.Pl
open Go
theorem awake20a : law20_awake 18446744073709551616 = some ((true, ()), ()) := by kernel_rfl
theorem take_cnt {α : Type} (f : α → Bool) {l : List α} {i : Nat} (h : i < l.length) : (l.take (i + 1)).countP f = (l.take i).countP f + (f l[i]).toNat := by
  rw [← List.take_append_getElem h, List.countP_append, List.countP_cons, List.countP_nil]
  cases f l[i] <;> rfl
section
variable (N : Nat) (hN : 4611686018427387904 ≤ N)
include hN
theorem aapart_ok {a b : Bx} (ha : BOk a) (hb : BOk b) : law20_apart N a b = some ((!(okL (ofB a) (ofB b)), ()), ()) := by
  unfold law20_apart
  rw [rmeet_ok N hN ha hb]
  rfl
theorem agrees_2 (pk : List UInt8) (o : Bool) (l : List Rl) {es : List En} (hel : es.length ≤ 1000000) (he : EOk es) (hap : ∀ i j, i < j → j < es.length → okL (ofB (es.getD j ez).1) (ofB (es.getD i ez).1) = false) {j : Nat} (hj : j < es.length) :
    law20_DecorrelateAgrees_s2 N pk o (es.length : Int) (j : Int) l es = some (.go ((pk, o, (es.length : Int), ((j + 1 : Nat) : Int), ()), (l, es, ()))) := by
  unfold law20_DecorrelateAgrees_s2
  rw [dpos (show (j : Int) < (es.length : Int) by omega), cond_true]
  unfold law20_DecorrelateAgrees_3 law20_DecorrelateAgrees_5 law20_DecorrelateAgrees_6
  refine (loopK_run (fun k : Nat => ((pk, o, (j : Int), (k : Int), (es.length : Int), (j : Int), ()), (l, es, ()))) (n := j) ?_ (e := ((pk, o, (es.length : Int), (j : Int), ()), (l, es, ()))) ?_ (by omega)).trans ?_
  · intro k hk
    show law20_DecorrelateAgrees_s7 N pk o (j : Int) (k : Int) (es.length : Int) (j : Int) l es = _
    unfold law20_DecorrelateAgrees_s7
    have hw : w64 ((k : Int) + 1) = ((k + 1 : Nat) : Int) := by rw [w64_of (by omega) (by omega)]; rfl
    rw [dpos (show (k : Int) < (j : Int) by omega), inRN hj, inRN (show k < es.length by omega), hw]
    simp only [cond_true, Int.toNat_natCast]
    have h1 := hap k j hk hj
    have h2 : BOk (es.getD j ez).1 := he _ (getD_mem hj _)
    have h3 : BOk (es.getD k ez).1 := he _ (getD_mem (by omega) _)
    have h4 := aapart_ok N hN h2 h3
    rw [h1] at h4
    have h4' : law20_apart N (es.getD j ((((0 : Int), (0 : UInt64), (0 : UInt64), ()), ((0 : Int), (0 : UInt64), (0 : UInt64), ()), ((0 : Int), (0 : UInt64), (0 : UInt64), ()), ((0 : Int), (0 : UInt64), (0 : UInt64), ()), (0 : Int), (0 : Int), (List.replicate 2 (0 : Int)), (List.replicate 2 (0 : Int)), ()), (0 : Int), ())).1 (es.getD k ((((0 : Int), (0 : UInt64), (0 : UInt64), ()), ((0 : Int), (0 : UInt64), (0 : UInt64), ()), ((0 : Int), (0 : UInt64), (0 : UInt64), ()), ((0 : Int), (0 : UInt64), (0 : UInt64), ()), (0 : Int), (0 : Int), (List.replicate 2 (0 : Int)), (List.replicate 2 (0 : Int)), ()), (0 : Int), ())).1 = some ((true, ()), ()) := h4
    rw [h4']
    rfl
  · show law20_DecorrelateAgrees_s7 N pk o (j : Int) (j : Int) (es.length : Int) (j : Int) l es = _
    unfold law20_DecorrelateAgrees_s7
    rw [dneg (by omega)]; rfl
  · show law20_DecorrelateAgrees_8 N pk o (es.length : Int) (j : Int) l es = _
    unfold law20_DecorrelateAgrees_8
    rw [w64_of (by omega) (by omega)]; rfl
theorem agrees_17 (pk : List UInt8) (o : Bool) (l : List Rl) {es : List En} (hel : es.length ≤ 1000000) {p : Pk} (hp : POk p) {r : Option Nat} (hs : St (pt (turn p o)) es r) (t76 t77 : Int) (all : List Pk) (r0 : Int) (hr0 : ∀ i, r = some i → r0 = (i : Int)) :
    law20_DecorrelateAgrees_17 N pk o r0 r.isSome 0 t76 t77 (es.length : Int) 0 l es all p = law20_DecorrelateAgrees_16 N pk o t76 t77 l es all := by
  unfold law20_DecorrelateAgrees_17
  obtain ⟨h1, h2⟩ := hs
  let f : En → Bool := fun e => hx (pt (turn p o)) e.1
  have hle : ∀ k, ((es.take k).countP f : Nat) ≤ es.length := fun k => Nat.le_trans List.countP_le_length (by rw [List.length_take]; omega)
  refine (loopK_run (fun k : Nat => ((pk, o, r0, r.isSome, (((es.take k).countP f : Nat) : Int), t76, t77, (es.length : Int), (k : Int), ()), (l, es, all, p, ()))) (n := es.length) ?_ (e := ((pk, o, r.isSome, ((r.isSome.toNat : Nat) : Int), t76, t77, ()), (l, es, all, ()))) ?_ (by omega)).trans ?_
  · intro k hk
    show law20_DecorrelateAgrees_s18 N pk o r0 r.isSome (((es.take k).countP f : Nat) : Int) t76 t77 (es.length : Int) (k : Int) l es all p = _
    unfold law20_DecorrelateAgrees_s18
    have hw : w64 ((k : Int) + 1) = ((k + 1 : Nat) : Int) := by rw [w64_of (by omega) (by omega)]; rfl
    have hg : es.getD k ((((0 : Int), (0 : UInt64), (0 : UInt64), ()), ((0 : Int), (0 : UInt64), (0 : UInt64), ()), ((0 : Int), (0 : UInt64), (0 : UInt64), ()), ((0 : Int), (0 : UInt64), (0 : UInt64), ()), (0 : Int), (0 : Int), (List.replicate 2 (0 : Int)), (List.replicate 2 (0 : Int)), ()), (0 : Int), ()) = es[k] := getD_at' hk _
    have hlk := hle k
    have hw2 : w64 ((((es.take k).countP f : Nat) : Int) + 1) = (((es.take k).countP f : Nat) : Int) + 1 := by rw [w64_of (by omega) (by omega)]
    have htk := take_cnt f hk
    rw [dpos (show (k : Int) < (es.length : Int) by omega), inRN hk, hw, hw2, htk]
    simp only [cond_true, Int.toNat_natCast, hg]
    rw [has_ok N hN es[k].1 hp o, Option.bind_some]
    have hfe : f es[k] = hasB es[k].1 p o := rfl
    rw [hfe]
    cases hb : hasB es[k].1 p o with
    | false => rfl
    | true =>
      obtain ⟨q1, q2⟩ := h2 es[k] (List.getElem_mem hk) hb
      have q3 := hr0 _ q1
      have q4 : es[k].2.1 = r0 := by omega
      rw [q1, dpos q4]
      rfl
  · show law20_DecorrelateAgrees_s18 N pk o r0 r.isSome (((es.take es.length).countP f : Nat) : Int) t76 t77 (es.length : Int) (es.length : Int) l es all p = _
    unfold law20_DecorrelateAgrees_s18
    rw [dneg (by omega), cond_false, List.take_length]
    have h1' : es.countP f = r.isSome.toNat := h1
    rw [h1']
  · show law20_DecorrelateAgrees_19 N pk o r.isSome ((r.isSome.toNat : Nat) : Int) t76 t77 l es all = _
    unfold law20_DecorrelateAgrees_19
    cases r with
    | none => rfl
    | some i => rfl
theorem agrees_10 (pk : List UInt8) (o : Bool) {l : List Rl} (hl : l.length ≤ 1000000) (hB : ∀ r ∈ l, r.2.2.1.length ≤ 1000000 ∧ ∀ b ∈ r.2.2.1, BOk b) {es : List En} (he : entL l = (es, 0)) {all : List Pk} (ha : ∀ p ∈ all, POk p) (hal : all.length ≤ 1000000) :
    law20_DecorrelateAgrees_10 N pk o (all.length : Int) 0 l es all = some ((true, ()), ()) := by
  unfold law20_DecorrelateAgrees_10
  have hel := (ent_good (fun r hr => (hB r hr).2) he).2
  refine (loopK_run (fun i : Nat => ((pk, o, (all.length : Int), (i : Int), ()), (l, es, all, ()))) (n := all.length) ?_ (e := ((), ())) ?_ (by omega)).trans rfl
  · intro i hi
    show law20_DecorrelateAgrees_s11 N pk o (all.length : Int) (i : Int) l es all = _
    unfold law20_DecorrelateAgrees_s11
    have hp := ha _ (getD_mem hi ((0, 0, 0, ()), (0, 0, 0, ()), 0, 0, 0, ()))
    rw [dpos (show (i : Int) < (all.length : Int) by omega), cond_true]
    unfold law20_DecorrelateAgrees_12 law20_DecorrelateAgrees_14
    rw [inRN hi]
    simp only [cond_true, Int.toNat_natCast]
    generalize all.getD i ((0, 0, 0, ()), (0, 0, 0, ()), 0, 0, 0, ()) = p at hp ⊢
    have h16 : law20_DecorrelateAgrees_16 N pk o (all.length : Int) (i : Int) l es all = some (.go ((pk, o, (all.length : Int), ((i + 1 : Nat) : Int), ()), (l, es, all, ()))) := by
      unfold law20_DecorrelateAgrees_16
      rw [w64_of (by omega) (by omega)]; rfl
    have h15 : ∀ t, law20_DecorrelateAgrees_15 N pk o (all.length : Int) (i : Int) t l es all p = some (.go ((pk, o, (all.length : Int), ((i + 1 : Nat) : Int), ()), (l, es, all, ()))) := by
      intro t
      unfold law20_DecorrelateAgrees_15
      cases t
      · rw [cond_false, rrule_p N hN l hl hB p o, Option.bind_some]
        have h17 := agrees_17 N hN pk o l (es := es) (by omega) hp (st_ent (fun r hr => (hB r hr).2) he (pt (turn p o))) (all.length : Int) (i : Int) all (ruleV l p o).1 (by
          intro k hk
          rw [rF_ruleF] at hk
          unfold ruleV
          rw [hk])
        rw [rF_ruleF] at h17
        have hv : (ruleV l p o).2 = (ruleF l p o).isSome := by unfold ruleV; cases ruleF l p o <;> rfl
        simp only [hv]
        rw [h17, h16]
      · rw [cond_true, h16]
    rw [h15, h15]
    cases decide ((i : Int).tmod 11 = (pk.length : Int).tmod 11) <;> rfl
  · show law20_DecorrelateAgrees_s11 N pk o (all.length : Int) (all.length : Int) l es all = _
    unfold law20_DecorrelateAgrees_s11
    rw [dneg (by omega)]; rfl
theorem agrees_9 (pk : List UInt8) (hpk : pk.length ≤ 9223372036854775807) (o : Bool) {l : List Rl} (hl : l.length ≤ 4) (hB : ∀ r ∈ l, r.2.2.1.length ≤ 16 ∧ ∀ b ∈ r.2.2.1, BOk b) {es : List En} (he : entL l = (es, 0)) :
    law20_DecorrelateAgrees_9 N pk o l es = some ((true, ()), ()) := by
  unfold law20_DecorrelateAgrees_9
  have hB' : ∀ r ∈ l, r.2.2.1.length ≤ 1000000 ∧ ∀ b ∈ r.2.2.1, BOk b := fun r hr => ⟨by have := (hB r hr).1; omega, (hB r hr).2⟩
  obtain ⟨d0, e0, k0⟩ := new_ok N pk (m := 120) (by omega) (by omega)
  obtain ⟨all, e4, q1, q2⟩ := corners_ok N hN (M := 1500) (by omega) l (by omega) (fun r hr => ⟨by have := (hB r hr).1; omega, (hB r hr).2⟩)
  have e0' : make_New N pk (120 : Int) = _ := e0
  have e4' : ref20_Corners N l (1500 : Int) = _ := e4
  obtain ⟨p1, d1, f1, g1, j1⟩ := packet_ok N k0
  obtain ⟨p2, d2, f2, g2, j2⟩ := packet_ok N g1
  obtain ⟨p3, d3, f3, g3, j3⟩ := packet_ok N g2
  obtain ⟨p4, d4, f4, g4, j4⟩ := packet_ok N g3
  obtain ⟨p5, d5, f5, g5, j5⟩ := packet_ok N g4
  rw [e0', Option.bind_some, e4', Option.bind_some, f1, Option.bind_some, f2, Option.bind_some, f3, Option.bind_some, f4, Option.bind_some, f5, Option.bind_some, room_of (by simp only [List.length_cons, List.length_nil]; omega), cond_true]
  refine agrees_10 N hN pk o (by omega) hB' he ?_ (by rw [List.length_append]; simp only [List.length_cons, List.length_nil]; omega)
  intro x hx
  rcases List.mem_append.1 hx with hx | hx
  · exact q1 x hx
  · simp only [List.mem_cons, List.not_mem_nil, or_false] at hx
    rcases hx with rfl | rfl | rfl | rfl | rfl
    · exact j1
    · exact j2
    · exact j3
    · exact j4
    · exact j5
end
theorem agrees (codes : List UInt8) (hc : codes.length ≤ 9223372036854775807) (packets : List UInt8) (hp : packets.length ≤ 9223372036854775807) (o : Bool) :
    law20_DecorrelateAgrees 18446744073709551616 codes packets o = some ((true, ()), ()) := by
  unfold law20_DecorrelateAgrees
  rw [awake20a]
  generalize hN0 : 18446744073709551616 = N
  have hN : 4611686018427387904 ≤ N := by omega
  clear hN0
  simp only [Option.bind_some, Bool.not_true, cond_false]
  obtain ⟨c0, e0, k0⟩ := new_ok N codes (m := 200) (by omega) (by omega)
  obtain ⟨l, c1, e1, k1, hl⟩ := rules_ok N hN (m := 4) (by omega) k0
  have hlen := hl.1
  have hB : ∀ r ∈ l, r.2.2.1.length ≤ 16 ∧ ∀ b ∈ r.2.2.1, BOk b := fun r hr => ⟨by have := (hl.2 r hr).len; omega, (hl.2 r hr).box⟩
  have e1' : make_Codes_Rules N (4 : Int) c0 = _ := e1
  have e0' : make_New N codes (200 : Int) = _ := e0
  rw [e0', Option.bind_some, e1', Option.bind_some, pents_ok N hN (by omega) (fun r hr => (hl.2 r hr).rok), Option.bind_some]
  simp only []
  rcases ent_err l with h0 | h0
  · have he : entL l = ((entL l).1, 0) := by rw [← h0]
    rw [h0, dpos rfl]
    simp only [Bool.not_true, cond_false]
    generalize (entL l).1 = es at he ⊢
    have hg := ent_good (fun r hr => (hB r hr).2) he
    unfold law20_DecorrelateAgrees_1
    refine (loopK_run (fun i : Nat => ((packets, o, (es.length : Int), (i : Int), ()), (l, es, ()))) (n := es.length) ?_ (e := ((packets, o, ()), (l, es, ()))) ?_ (by omega)).trans ?_
    · intro j hj
      exact agrees_2 N hN packets o l (by omega) hg.1 (fun i j hij hj => ent_apart (fun r hr => (hB r hr).2) he hij hj) hj
    · show law20_DecorrelateAgrees_s2 N packets o (es.length : Int) (es.length : Int) l es = _
      unfold law20_DecorrelateAgrees_s2
      rw [dneg (by omega)]; rfl
    · exact agrees_9 N hN packets hp o (by omega) hB he
  · rw [h0]
    rfl
end Go.Proofs.Ytgbkkfpheahdfaa.Pl
