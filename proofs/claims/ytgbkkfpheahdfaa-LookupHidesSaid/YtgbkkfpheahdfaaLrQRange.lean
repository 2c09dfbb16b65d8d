/- Plain: ranges and boxes (decorrelate): what they have in common, and what is left. -/
import Derived.Test.YtgbkkfpheahdfaaLrQCodes
import Derived.Test.YtgbkkfpheahdfaaFnsLookupHidesB
set_option linter.unusedVariables false
set_option linter.unusedSimpArgs false
namespace Go.Proofs.Ytgbkkfpheahdfaa.Pl
open Go
abbrev V := Int × (UInt64 × (UInt64 × Unit))
abbrev Sd := V × (V × Unit)
abbrev Bx := V × (V × (V × (V × (Int × (Int × (List Int × (List Int × Unit)))))))
def vk (v : V) : Int := v.1 * 340282366920938463463374607431768211456 + (v.2.1.toNat : Int) * 18446744073709551616 + v.2.2.1.toNat
def v0 : V := (0, 0, 0, ())
def s0 : Sd := (v0, v0, ())
theorem vk_lt (a b : V) : vk a < vk b ↔ a.1 < b.1 ∨ (a.1 = b.1 ∧ (a.2.1 < b.2.1 ∨ (a.2.1 = b.2.1 ∧ a.2.2.1 < b.2.2.1))) := by
  unfold vk
  rw [UInt64.lt_iff_toNat_lt, UInt64.lt_iff_toNat_lt, ← UInt64.toNat_inj]
  have := a.2.1.toNat_lt; have := a.2.2.1.toNat_lt; have := b.2.1.toNat_lt; have := b.2.2.1.toNat_lt
  omega
theorem vk_inj {a b : V} (h : vk a = vk b) : a = b := by
  obtain ⟨a1, a2, a3, _⟩ := a
  obtain ⟨b1, b2, b3, _⟩ := b
  unfold vk at h
  simp only at h
  have := a2.toNat_lt; have := a3.toNat_lt; have := b2.toNat_lt; have := b3.toNat_lt
  obtain rfl : a1 = b1 := by omega
  obtain rfl : a2 = b2 := UInt64.toNat_inj.1 (by omega)
  obtain rfl : a3 = b3 := UInt64.toNat_inj.1 (by omega)
  rfl
def cv (a b : V) : Int := if vk a < vk b then -1 else if vk b < vk a then 1 else 0
section
variable {S E R : Type} {step : S → Option (Lo S E R)} {J : E → Option R} {N : Nat} {x : S}
theorem lk_go {y : S} (h : step x = some (.go y)) : loopK (N + 1) step J x = loopK N step J y := by rw [loopK_succ, h]; rfl
theorem lk_br {e : E} (h : step x = some (.br e)) : loopK (N + 1) step J x = J e := by rw [loopK_succ, h]; rfl
theorem lk_rt {r : R} (h : step x = some (.rt r)) : loopK (N + 1) step J x = some r := by rw [loopK_succ, h]; rfl
end
theorem or_go (N : Nat) (l : List Int) (k : Nat) (h : k < l.length) (hl : l.length ≤ 1000) (hz : l.getD k 0 = 0) : cmp_Or_int__s2 N 0 l (l.length : Int) (k : Int) = some (.go ((0, l, (l.length : Int), ((k + 1 : Nat) : Int), ()), ())) := by
  unfold cmp_Or_int__s2
  have e : ((k : Nat) : Int).toNat = k := by omega
  simp (disch := omega) only [dpos, dneg, w64_of, inR_of, room_of, tmod_of, cond_true, cond_false, Bool.and_self, Bool.and_true, Bool.true_and, Bool.and_false, Bool.false_and, Bool.not_true, Bool.not_false, Option.bind_some, List.length_cons, List.length_nil, Nat.zero_add, e, hz, Int.natCast_add, Int.natCast_one, decide_true]
theorem or_rt (N : Nat) (l : List Int) (k : Nat) (h : k < l.length) (hl : l.length ≤ 1000) (hz : l.getD k 0 ≠ 0) : cmp_Or_int__s2 N 0 l (l.length : Int) (k : Int) = some (.rt ((l.getD k 0, ()), ())) := by
  unfold cmp_Or_int__s2
  have e : ((k : Nat) : Int).toNat = k := by omega
  simp (disch := first | omega | exact hz) only [dpos, dneg, w64_of, inR_of, room_of, tmod_of, cond_true, cond_false, Bool.and_self, Bool.and_true, Bool.true_and, Bool.and_false, Bool.false_and, Bool.not_true, Bool.not_false, Option.bind_some, List.length_cons, List.length_nil, Nat.zero_add, e]
theorem or_ok (M : Nat) (x y z : Int) : cmp_Or_int_ (M + 5) [x, y, z] = some ((if x = 0 then (if y = 0 then z else y) else x, ()), ()) := by
  unfold cmp_Or_int_ cmp_Or_int__1
  by_cases hx : x = 0
  · rw [if_pos hx]
    refine (lk_go (or_go (M + 5) [x, y, z] 0 (by simp) (by simp) hx)).trans ?_
    by_cases hy : y = 0
    · rw [if_pos hy]
      refine (lk_go (or_go (M + 5) [x, y, z] 1 (by simp) (by simp) hy)).trans ?_
      by_cases hz : z = 0
      · refine (lk_go (or_go (M + 5) [x, y, z] 2 (by simp) (by simp) hz)).trans ?_
        refine (lk_br (e := ((0, ()), ())) ?_).trans (by rw [hz]; rfl)
        show cmp_Or_int__s2 (M + 5) 0 [x, y, z] _ _ = _
        unfold cmp_Or_int__s2
        have hl : ¬ (((2 + 1 : Nat) : Int) < (([x, y, z] : List Int).length : Int)) := by simp
        rw [dneg hl]
        rfl
      · exact lk_rt (or_rt (M + 5) [x, y, z] 2 (by simp) (by simp) hz)
    · rw [if_neg hy]
      exact lk_rt (or_rt (M + 5) [x, y, z] 1 (by simp) (by simp) hy)
  · rw [if_neg hx]
    exact lk_rt (or_rt (M + 5) [x, y, z] 0 (by simp) (by simp) hx)
theorem cv_lt {a b : V} (h : vk a < vk b) : cv a b = -1 := by unfold cv; rw [if_pos h]
theorem cv_gt {a b : V} (h : vk b < vk a) : cv a b = 1 := by unfold cv; rw [if_neg (by omega), if_pos h]
theorem cv_eq {a b : V} (h : ¬ vk a < vk b) (h' : ¬ vk b < vk a) : cv a b = 0 := by unfold cv; rw [if_neg h, if_neg h']
theorem cmpi (N : Nat) (x y : Int) : cmp_Compare_int_ N x y = some ((if x < y then -1 else if y < x then 1 else 0, ()), ()) := by
  unfold cmp_Compare_int_ cmp_isNaN_int_
  by_cases h : x < y
  · simp [h]
  · by_cases h' : y < x <;> simp [h, h']
theorem cmpu (N : Nat) (x y : UInt64) : cmp_Compare_uint64_ N x y = some ((if x < y then -1 else if y < x then 1 else 0, ()), ()) := by
  unfold cmp_Compare_uint64_ cmp_isNaN_uint64_
  by_cases h : x < y
  · simp [h]
  · by_cases h' : y < x <;> simp [h, h']
theorem compare_ok' (M : Nat) (a b : V) : decorrelate_value_compare (M + 5) a b = some ((cv a b, ()), ()) := by
  unfold decorrelate_value_compare
  rw [cmpi, cmpu, cmpu]
  simp only [Option.bind_some, or_ok]
  have e1 := vk_lt a b
  have e2 := vk_lt b a
  by_cases i1 : a.1 < b.1
  · rw [cv_lt (e1.2 (.inl i1))]; simp [i1]
  · by_cases i2 : b.1 < a.1
    · rw [cv_gt (e2.2 (.inl i2))]; simp [i1, i2]
    · have i3 : a.1 = b.1 := by omega
      by_cases j1 : a.2.1 < b.2.1
      · rw [cv_lt (e1.2 (.inr ⟨i3, .inl j1⟩))]; simp [i1, i2, j1]
      · by_cases j2 : b.2.1 < a.2.1
        · rw [cv_gt (e2.2 (.inr ⟨i3.symm, .inl j2⟩))]; simp [i1, i2, j1, j2]
        · have j3 : a.2.1 = b.2.1 := UInt64.toNat_inj.1 (by rw [UInt64.lt_iff_toNat_lt] at j1 j2; omega)
          by_cases k1 : a.2.2.1 < b.2.2.1
          · rw [cv_lt (e1.2 (.inr ⟨i3, .inr ⟨j3, k1⟩⟩))]; simp [i1, i2, j1, j2, k1]
          · by_cases k2 : b.2.2.1 < a.2.2.1
            · rw [cv_gt (e2.2 (.inr ⟨i3.symm, .inr ⟨j3.symm, k2⟩⟩))]; simp [i1, i2, j1, j2, k1, k2]
            · rw [cv_eq (fun h => (e1.1 h).elim i1 fun h => h.2.elim j1 fun h => k1 h.2) (fun h => (e2.1 h).elim i2 fun h => h.2.elim j2 fun h => k2 h.2)]; simp [i1, i2, j1, j2, k1, k2]
theorem compare_ok (N : Nat) (a b : V) (hN : 4611686018427387904 ≤ N) : decorrelate_value_compare N a b = some ((cv a b, ()), ()) := by
  obtain ⟨M, rfl⟩ : ∃ M, N = M + 5 := ⟨N - 5, by omega⟩
  exact compare_ok' M a b
theorem cv_neg (a b : V) : cv a b < 0 ↔ vk a < vk b := by unfold cv; split <;> (try split) <;> omega
theorem cv_pos (a b : V) : 0 < cv a b ↔ vk b < vk a := by unfold cv; split <;> (try split) <;> omega
theorem cv_le (a b : V) : cv a b ≤ 0 ↔ vk a ≤ vk b := by unfold cv; split <;> (try split) <;> omega
/-- What two ranges have in common. -/
def sm (s t : Sd) : Sd := (if vk s.1 < vk t.1 then t.1 else s.1, if vk t.2.1 < vk s.2.1 then t.2.1 else s.2.1, ())
def sok (s : Sd) : Bool := decide (vk s.1 ≤ vk s.2.1)
theorem side_meet (N : Nat) (s t : Sd) (hN : 4611686018427387904 ≤ N) : decorrelate_side_meet N s t = some ((sm s t, sok (sm s t), ()), ()) := by
  unfold decorrelate_side_meet decorrelate_side_meet_1 decorrelate_side_meet_2 sm sok
  simp only [compare_ok N _ _ hN, Option.bind_some, cv_neg, cv_pos, cv_le]
  by_cases h1 : vk s.1 < vk t.1 <;> by_cases h2 : vk t.2.1 < vk s.2.1 <;> simp [h1, h2]
abbrev Pr := List Sd
def okL (p q : Pr) : Bool := sok (sm (p.getD 0 s0) (q.getD 0 s0)) && (sok (sm (p.getD 1 s0) (q.getD 1 s0)) && (sok (sm (p.getD 2 s0) (q.getD 2 s0)) && (sok (sm (p.getD 3 s0) (q.getD 3 s0)) && sok (sm (p.getD 4 s0) (q.getD 4 s0)))))
def mL (p q : Pr) : Pr := [sm (p.getD 0 s0) (q.getD 0 s0), sm (p.getD 1 s0) (q.getD 1 s0), sm (p.getD 2 s0) (q.getD 2 s0), sm (p.getD 3 s0) (q.getD 3 s0), sm (p.getD 4 s0) (q.getD 4 s0)]
theorem product_meet' (M : Nat) (p0 p1 p2 p3 p4 q0 q1 q2 q3 q4 : Sd) (hN : 4611686018427387904 ≤ M + 6) : decorrelate_product_meet (M + 6) [p0, p1, p2, p3, p4] [q0, q1, q2, q3, q4] = some ((if okL [p0, p1, p2, p3, p4] [q0, q1, q2, q3, q4] = true then mL [p0, p1, p2, p3, p4] [q0, q1, q2, q3, q4] else List.replicate 5 s0, okL [p0, p1, p2, p3, p4] [q0, q1, q2, q3, q4], ()), ()) := by
  unfold decorrelate_product_meet decorrelate_product_meet_1
  show _ = some ((if (sok (sm p0 q0) && (sok (sm p1 q1) && (sok (sm p2 q2) && (sok (sm p3 q3) && sok (sm p4 q4))))) = true then [sm p0 q0, sm p1 q1, sm p2 q2, sm p3 q3, sm p4 q4] else List.replicate 5 s0, (sok (sm p0 q0) && (sok (sm p1 q1) && (sok (sm p2 q2) && (sok (sm p3 q3) && sok (sm p4 q4))))), ()), ())
  rw [loopK_succ]
  simp (disch := omega) only [decorrelate_product_meet_s2, dpos, dneg, w64_of, inR_of, room_of, tmod_of, cond_true, cond_false, Bool.and_self, Bool.and_true, Bool.true_and, Bool.and_false, Bool.false_and, Bool.not_true, Bool.not_false, Option.bind_some, List.length_cons, List.length_nil, Nat.zero_add, side_meet _ _ _ hN, show (0 : Int).toNat = 0 from rfl, List.getD_cons_zero]
  cases h0 : sok (sm p0 q0)
  · simp only [dpos, dneg, w64_of, inR_of, room_of, tmod_of, cond_true, cond_false, Bool.and_self, Bool.and_true, Bool.true_and, Bool.and_false, Bool.false_and, Bool.not_true, Bool.not_false, Option.bind_some, List.length_cons, List.length_nil, Nat.zero_add, Bool.false_and, Bool.false_eq_true, if_false]; rfl
  simp (disch := omega) only [dpos, dneg, w64_of, inR_of, room_of, tmod_of, cond_true, cond_false, Bool.and_self, Bool.and_true, Bool.true_and, Bool.and_false, Bool.false_and, Bool.not_true, Bool.not_false, Option.bind_some, List.length_cons, List.length_nil, Nat.zero_add, show ((0 : Int) + 1).toNat = 1 from rfl, List.set_cons_zero]
  rw [loopK_succ]
  simp (disch := omega) only [decorrelate_product_meet_s2, dpos, dneg, w64_of, inR_of, room_of, tmod_of, cond_true, cond_false, Bool.and_self, Bool.and_true, Bool.true_and, Bool.and_false, Bool.false_and, Bool.not_true, Bool.not_false, Option.bind_some, List.length_cons, List.length_nil, Nat.zero_add, side_meet _ _ _ hN, show ((0 : Int) + 1).toNat = 1 from rfl, List.getD_cons_zero, List.getD_cons_succ]
  cases h1 : sok (sm p1 q1)
  · simp only [dpos, dneg, w64_of, inR_of, room_of, tmod_of, cond_true, cond_false, Bool.and_self, Bool.and_true, Bool.true_and, Bool.and_false, Bool.false_and, Bool.not_true, Bool.not_false, Option.bind_some, List.length_cons, List.length_nil, Nat.zero_add, Bool.false_and, Bool.and_false, Bool.false_eq_true, if_false]; rfl
  simp (disch := omega) only [dpos, dneg, w64_of, inR_of, room_of, tmod_of, cond_true, cond_false, Bool.and_self, Bool.and_true, Bool.true_and, Bool.and_false, Bool.false_and, Bool.not_true, Bool.not_false, Option.bind_some, List.length_cons, List.length_nil, Nat.zero_add, List.set_cons_zero, List.set_cons_succ]
  rw [loopK_succ]
  simp (disch := omega) only [decorrelate_product_meet_s2, dpos, dneg, w64_of, inR_of, room_of, tmod_of, cond_true, cond_false, Bool.and_self, Bool.and_true, Bool.true_and, Bool.and_false, Bool.false_and, Bool.not_true, Bool.not_false, Option.bind_some, List.length_cons, List.length_nil, Nat.zero_add, side_meet _ _ _ hN, show ((0 : Int) + 1 + 1).toNat = 2 from rfl, List.getD_cons_zero, List.getD_cons_succ]
  cases h2 : sok (sm p2 q2)
  · simp only [dpos, dneg, w64_of, inR_of, room_of, tmod_of, cond_true, cond_false, Bool.and_self, Bool.and_true, Bool.true_and, Bool.and_false, Bool.false_and, Bool.not_true, Bool.not_false, Option.bind_some, List.length_cons, List.length_nil, Nat.zero_add, Bool.false_and, Bool.and_false, Bool.false_eq_true, if_false]; rfl
  simp (disch := omega) only [dpos, dneg, w64_of, inR_of, room_of, tmod_of, cond_true, cond_false, Bool.and_self, Bool.and_true, Bool.true_and, Bool.and_false, Bool.false_and, Bool.not_true, Bool.not_false, Option.bind_some, List.length_cons, List.length_nil, Nat.zero_add, List.set_cons_zero, List.set_cons_succ]
  rw [loopK_succ]
  simp (disch := omega) only [decorrelate_product_meet_s2, dpos, dneg, w64_of, inR_of, room_of, tmod_of, cond_true, cond_false, Bool.and_self, Bool.and_true, Bool.true_and, Bool.and_false, Bool.false_and, Bool.not_true, Bool.not_false, Option.bind_some, List.length_cons, List.length_nil, Nat.zero_add, side_meet _ _ _ hN, show ((0 : Int) + 1 + 1 + 1).toNat = 3 from rfl, List.getD_cons_zero, List.getD_cons_succ]
  cases h3 : sok (sm p3 q3)
  · simp only [dpos, dneg, w64_of, inR_of, room_of, tmod_of, cond_true, cond_false, Bool.and_self, Bool.and_true, Bool.true_and, Bool.and_false, Bool.false_and, Bool.not_true, Bool.not_false, Option.bind_some, List.length_cons, List.length_nil, Nat.zero_add, Bool.false_and, Bool.and_false, Bool.false_eq_true, if_false]; rfl
  simp (disch := omega) only [dpos, dneg, w64_of, inR_of, room_of, tmod_of, cond_true, cond_false, Bool.and_self, Bool.and_true, Bool.true_and, Bool.and_false, Bool.false_and, Bool.not_true, Bool.not_false, Option.bind_some, List.length_cons, List.length_nil, Nat.zero_add, List.set_cons_zero, List.set_cons_succ]
  rw [loopK_succ]
  simp (disch := omega) only [decorrelate_product_meet_s2, dpos, dneg, w64_of, inR_of, room_of, tmod_of, cond_true, cond_false, Bool.and_self, Bool.and_true, Bool.true_and, Bool.and_false, Bool.false_and, Bool.not_true, Bool.not_false, Option.bind_some, List.length_cons, List.length_nil, Nat.zero_add, side_meet _ _ _ hN, show ((0 : Int) + 1 + 1 + 1 + 1).toNat = 4 from rfl, List.getD_cons_zero, List.getD_cons_succ]
  cases h4 : sok (sm p4 q4)
  · simp only [dpos, dneg, w64_of, inR_of, room_of, tmod_of, cond_true, cond_false, Bool.and_self, Bool.and_true, Bool.true_and, Bool.and_false, Bool.false_and, Bool.not_true, Bool.not_false, Option.bind_some, List.length_cons, List.length_nil, Nat.zero_add, Bool.false_and, Bool.and_false, Bool.false_eq_true, if_false]; rfl
  simp (disch := omega) only [dpos, dneg, w64_of, inR_of, room_of, tmod_of, cond_true, cond_false, Bool.and_self, Bool.and_true, Bool.true_and, Bool.and_false, Bool.false_and, Bool.not_true, Bool.not_false, Option.bind_some, List.length_cons, List.length_nil, Nat.zero_add, List.set_cons_zero, List.set_cons_succ]
  rw [loopK_succ]
  simp (disch := omega) only [decorrelate_product_meet_s2, dpos, dneg, w64_of, inR_of, room_of, tmod_of, cond_true, cond_false, Bool.and_self, Bool.and_true, Bool.true_and, Bool.and_false, Bool.false_and, Bool.not_true, Bool.not_false, Option.bind_some, List.length_cons, List.length_nil, Nat.zero_add]
  rfl
theorem product_meet (N : Nat) {p q : Pr} (hp : p.length = 5) (hq : q.length = 5) (hN : 4611686018427387904 ≤ N) : decorrelate_product_meet N p q = some ((if okL p q = true then mL p q else List.replicate 5 s0, okL p q, ()), ()) := by
  obtain ⟨M, rfl⟩ : ∃ M, N = M + 6 := ⟨N - 6, by omega⟩
  match p, hp with
  | [p0, p1, p2, p3, p4], _ => match q, hq with
    | [q0, q1, q2, q3, q4], _ => exact product_meet' M p0 p1 p2 p3 p4 q0 q1 q2 q3 q4 hN
def nm (v : V) : Int := w64 (w64 (v.2.2.1.toNat : Int) - 1)
def ad (v : V) : V := (v.1, v.2.1, v.2.2.1, ())
def bxOf (p : Pr) : Bx := (ad (p.getD 0 s0).1, ad (p.getD 0 s0).2.1, ad (p.getD 1 s0).1, ad (p.getD 1 s0).2.1, nm (p.getD 2 s0).1, nm (p.getD 2 s0).2.1, [nm (p.getD 3 s0).1, nm (p.getD 3 s0).2.1], [nm (p.getD 4 s0).1, nm (p.getD 4 s0).2.1], ())
theorem product_box (N : Nat) (p : Pr) : decorrelate_product_box N p = some ((bxOf p, ()), ()) := rfl
def nv (n : Int) : V := (0, 0, iu64 (w64 (n + 1)), ())
def ofB (b : Bx) : Pr := [(ad b.1, ad b.2.1, ()), (ad b.2.2.1, ad b.2.2.2.1, ()), (nv b.2.2.2.2.1, nv b.2.2.2.2.2.1, ()), (nv (b.2.2.2.2.2.2.1.getD 0 0), nv (b.2.2.2.2.2.2.1.getD 1 0), ()), (nv (b.2.2.2.2.2.2.2.1.getD 0 0), nv (b.2.2.2.2.2.2.2.1.getD 1 0), ())]
theorem of_box (N : Nat) (b : Bx) : decorrelate_ofBox N b = some ((ofB b, ()), ()) := rfl
def b0 : Bx := (v0, v0, v0, v0, 0, 0, [0, 0], [0, 0], ())
theorem meet_ok (N : Nat) (a b : Bx) (hN : 4611686018427387904 ≤ N) : decorrelate_Meet N a b = some ((if okL (ofB a) (ofB b) = true then bxOf (mL (ofB a) (ofB b)) else b0, okL (ofB a) (ofB b), ()), ()) := by
  unfold decorrelate_Meet
  rw [of_box, of_box]
  simp only [dpos, dneg, w64_of, inR_of, room_of, tmod_of, cond_true, cond_false, Bool.and_self, Bool.and_true, Bool.true_and, Bool.and_false, Bool.false_and, Bool.not_true, Bool.not_false, Option.bind_some, List.length_cons, List.length_nil, Nat.zero_add, product_meet N (show (ofB a).length = 5 from rfl) (show (ofB b).length = 5 from rfl) hN, product_box]
  cases okL (ofB a) (ofB b)
  · rfl
  · rfl
def ahead (v : V) : V := (v.1, if v.2.2.1 = 0 then v.2.1 - 1 else v.2.1, v.2.2.1 - 1, ())
def behind (v : V) : V := (v.1, if v.2.2.1 + 1 = 0 then v.2.1 + 1 else v.2.1, v.2.2.1 + 1, ())
theorem ahead_ok (N : Nat) (v : V) : decorrelate_value_ahead N v = some ((ahead v, ()), ()) := by
  unfold decorrelate_value_ahead decorrelate_value_ahead_1 ahead
  by_cases h : v.2.2.1 = 0 <;> simp [h]
theorem behind_ok (N : Nat) (v : V) : decorrelate_value_behind N v = some ((behind v, ()), ()) := by
  unfold decorrelate_value_behind behind
  by_cases h : v.2.2.1 + 1 = 0 <;> simp [h]
/-- The ranges of which the first k are those of the meet. -/
def cK (c m : Pr) (k : Nat) : Pr := m.take k ++ c.drop k
/-- The pieces of range k. -/
def pcs (c m : Pr) (k : Nat) : List Bx :=
  (if vk (c.getD k s0).1 < vk (m.getD k s0).1 then [bxOf (c.set k ((c.getD k s0).1, ahead (m.getD k s0).1, ()))] else []) ++
  (if vk (m.getD k s0).2.1 < vk (c.getD k s0).2.1 then [bxOf (c.set k (behind (m.getD k s0).2.1, (c.getD k s0).2.1, ()))] else [])
def outK (c m : Pr) : Nat → List Bx
  | 0 => []
  | k + 1 => outK c m k ++ pcs (cK c m k) m k
theorem outK_len (c m : Pr) : ∀ k, (outK c m k).length ≤ 2 * k
  | 0 => by simp [outK]
  | k + 1 => by
    have := outK_len c m k
    have h2 : (pcs (cK c m k) m k).length ≤ 2 := by unfold pcs; split <;> split <;> simp
    simp only [outK, List.length_append]; omega
section
variable {c m : Pr} (hc : c.length = 5) (hm : m.length = 5)
include hc hm
theorem cK_len {k : Nat} (h : k ≤ 5) : (cK c m k).length = 5 := by unfold cK; simp; omega
omit hc in
theorem cK_get {k : Nat} (h : k < 5) : (cK c m k).getD k s0 = c.getD k s0 := by
  unfold cK
  rw [List.getD_eq_getElem?_getD, List.getElem?_append_right (by simp; omega), List.length_take, hm, Nat.min_eq_left (by omega), Nat.sub_self, List.getElem?_drop, Nat.add_zero, ← List.getD_eq_getElem?_getD]
theorem cK_set {k : Nat} (h : k < 5) : (cK c m k).set k (m.getD k s0) = cK c m (k + 1) := by
  unfold cK
  rw [List.set_append_right _ _ (by simp; omega), List.length_take, hm, Nat.min_eq_left (by omega), Nat.sub_self, List.drop_eq_getElem_cons (by omega), List.set_cons_zero, take_snoc m s0 (by omega), List.append_assoc]
  rfl
theorem minus_step (N : Nat) (hN : 4611686018427387904 ≤ N) {k : Nat} (h : k < 5) : decorrelate_Minus_s2 N (k : Int) (cK c m k) (outK c m k) m = some (.go ((((k + 1 : Nat) : Int), ()), (cK c m (k + 1), outK c m (k + 1), m, ()))) := by
  have hl := outK_len c m k
  have e : ((k : Nat) : Int).toNat = k := by omega
  unfold decorrelate_Minus_s2
  show _ = some (Lo.go ((((k + 1 : Nat) : Int), ()), (cK c m (k + 1), outK c m k ++ pcs (cK c m k) m k, m, ())))
  unfold pcs
  rw [← cK_set hc hm h]
  generalize cK c m k = x
  generalize outK c m k = o at *
  have hr : inR (k : Int) 5 = true := inR_of (by omega) (by omega)
  have h5 : ((k : Nat) : Int) < 5 := by omega
  simp only [hr, e, dpos h5, cond_true, compare_ok N _ _ hN, Option.bind_some, cv_neg, ahead_ok, behind_ok, product_box]
  have hw : w64 ((k : Int) + 1) = ((k + 1 : Nat) : Int) := by rw [w64_of (by omega) (by omega)]; rfl
  rw [hw]
  show (bif decide (vk (x.getD k s0).1 < vk (m.getD k s0).1) then _ else _) = _
  by_cases q1 : vk (x.getD k s0).1 < vk (m.getD k s0).1
  · rw [dpos q1, if_pos q1, cond_true, room_of (by simp; omega), cond_true]
    show (bif decide (vk (m.getD k s0).2.1 < vk (x.getD k s0).2.1) then _ else _) = _
    by_cases q2 : vk (m.getD k s0).2.1 < vk (x.getD k s0).2.1
    · rw [dpos q2, if_pos q2, cond_true, room_of (by simp; omega), cond_true, List.append_assoc, List.set_set]
      rfl
    · rw [dneg q2, if_neg q2, cond_false, List.append_nil]
      rfl
  · rw [dneg q1, if_neg q1, cond_false]
    show (bif decide (vk (m.getD k s0).2.1 < vk (x.getD k s0).2.1) then _ else _) = _
    by_cases q2 : vk (m.getD k s0).2.1 < vk (x.getD k s0).2.1
    · rw [dpos q2, if_pos q2, cond_true, room_of (by simp; omega), cond_true, List.nil_append]
      rfl
    · rw [dneg q2, if_neg q2, cond_false, List.append_nil, List.append_nil]
      rfl
end
def mns (a : Bx) (b : Bx) : List Bx := if okL (ofB a) (ofB b) = true then outK (ofB a) (mL (ofB a) (ofB b)) 5 else [a]
theorem minus_ok (N : Nat) (a b : Bx) (hN : 4611686018427387904 ≤ N) : decorrelate_Minus N a b = some ((), (mns a b, ())) := by
  unfold decorrelate_Minus mns
  rw [of_box, of_box]
  simp only [dpos, dneg, w64_of, inR_of, room_of, tmod_of, cond_true, cond_false, Bool.and_self, Bool.and_true, Bool.true_and, Bool.and_false, Bool.false_and, Bool.not_true, Bool.not_false, Option.bind_some, List.length_cons, List.length_nil, Nat.zero_add, product_meet N (show (ofB a).length = 5 from rfl) (show (ofB b).length = 5 from rfl) hN]
  cases okL (ofB a) (ofB b)
  · rfl
  · simp only [Bool.not_true, cond_false, if_true]
    unfold decorrelate_Minus_1
    refine (loopK_run (fun k : Nat => (((k : Int), ()), (cK (ofB a) (mL (ofB a) (ofB b)) k, outK (ofB a) (mL (ofB a) (ofB b)) k, mL (ofB a) (ofB b), ()))) (n := 5) ?_ (e := ((), (outK (ofB a) (mL (ofB a) (ofB b)) 5, ()))) ?_ (by omega)).trans ?_
    · intro i hi
      exact minus_step rfl rfl N hN hi
    · show decorrelate_Minus_s2 N _ _ _ _ = _
      unfold decorrelate_Minus_s2
      rfl
    · rfl
end Go.Proofs.Ytgbkkfpheahdfaa.Pl
