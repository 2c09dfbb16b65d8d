/- Plain: the law Poly1305One. -/
import Derived.Test.YtlamdneheilahaaPoQPolyZero
import Derived.Test.YtlamdneheilahaaPoQPolyCarry
import Derived.Test.YtlamdneheilahaaFnsPoly1305OneA
set_option linter.unusedVariables false
set_option linter.unusedSimpArgs false
namespace Go.Proofs.Ytlamdneheilahaa.Pl
open Go Poly
noncomputable section
def il (L : List Nat) : List Int := L.map fun (n : Nat) => (n : Int)
theorem il_get (L : List Nat) (i : Nat) : (il L).getD i 0 = ((L.getD i 0 : Nat) : Int) := by
  simp only [il, List.getD, List.getElem?_map]
  cases L[i]? <;> rfl
theorem il_set (L : List Nat) (i x : Nat) : (il L).set i (x : Int) = il (L.set i x) := by simp [il, List.map_set]
theorem le_setN (L : List Nat) {i : Nat} (hi : i < L.length) (x : Nat) : le (L.set i x) + L.getD i 0 * 256 ^ i = le L + x * 256 ^ i := by
  induction L generalizing i with
  | nil => simp at hi
  | cons z l ih =>
    cases i with
    | zero => simp only [List.set_cons_zero, le, Nat.pow_zero, List.getD_cons_zero]; omega
    | succ i =>
      have := ih (i := i) (by simpa using hi)
      simp only [List.set_cons_succ, le, List.getD_cons_succ, Nat.pow_succ]
      rw [← Nat.mul_assoc, ← Nat.mul_assoc]
      omega
theorem getD_setN (L : List Nat) {i : Nat} (hi : i < L.length) (x j : Nat) : (L.set i x).getD j 0 = if i = j then x else L.getD j 0 := by
  by_cases e : i = j
  · subst e; rw [if_pos rfl]; exact Poly.getD_set_self hi
  · rw [if_neg e]; exact Poly.getD_set_ne e
/-- A step of the carry. -/
def cst (L : List Nat) (i : Nat) : List Nat := (L.set (i + 1) (L.getD (i + 1) 0 + L.getD i 0 / 256)).set i (L.getD i 0 % 256)
def cn (L : List Nat) : Nat → List Nat
  | 0 => L
  | i + 1 => cst (cn L i) i
theorem cn_len (L : List Nat) (i : Nat) : (cn L i).length = L.length := by
  induction i with
  | zero => rfl
  | succ i ih => simp [cn, cst, ih]
theorem cn_le {L : List Nat} (hl : L.length = 18) : ∀ i, i ≤ 17 → le (cn L i) = le L := by
  intro i
  induction i with
  | zero => intro _; rfl
  | succ i ih =>
    intro hi
    have hcl := cn_len L i
    rw [← ih (by omega), cn, cst]
    generalize cn L i = C at hcl
    have h1 := le_setN C (i := i + 1) (by omega) (C.getD (i + 1) 0 + C.getD i 0 / 256)
    have h2 := le_setN (C.set (i + 1) (C.getD (i + 1) 0 + C.getD i 0 / 256)) (i := i) (by simp; omega) (C.getD i 0 % 256)
    rw [getD_setN C (by omega), if_neg (by omega)] at h2
    rw [Nat.add_mul] at h1
    have h3 : C.getD i 0 * 256 ^ i = C.getD i 0 / 256 * 256 ^ (i + 1) + C.getD i 0 % 256 * 256 ^ i := by
      rw [Nat.pow_succ, Nat.mul_comm (256 ^ i) 256, ← Nat.mul_assoc, ← Nat.add_mul]
      congr 1; omega
    omega
theorem cn_bd {L : List Nat} (hl : L.length = 18) (hb : ∀ j, L.getD j 0 ≤ 1000000) : ∀ i, i ≤ 17 → (∀ j, j < i → (cn L i).getD j 0 < 256) ∧ (cn L i).getD i 0 ≤ 1010000 ∧ ∀ j, i < j → (cn L i).getD j 0 = L.getD j 0 := by
  intro i
  induction i with
  | zero => intro _; exact ⟨fun j hj => by omega, by have := hb 0; simp only [cn]; omega, fun j _ => rfl⟩
  | succ i ih =>
    intro hi
    obtain ⟨h1, h2, h3⟩ := ih (by omega)
    have hcl := cn_len L i
    have h4 := h3 (i + 1) (by omega)
    have h5 := hb (i + 1)
    rw [cn, cst]
    generalize cn L i = C at hcl h1 h2 h3 h4
    have hg : ∀ j, ((C.set (i + 1) (C.getD (i + 1) 0 + C.getD i 0 / 256)).set i (C.getD i 0 % 256)).getD j 0 = if i = j then C.getD i 0 % 256 else if i + 1 = j then C.getD (i + 1) 0 + C.getD i 0 / 256 else C.getD j 0 := by
      intro j
      rw [getD_setN _ (by simp; omega), getD_setN C (by omega)]
    refine ⟨fun j hj => ?_, ?_, fun j hj => ?_⟩
    · rw [hg]
      split
      · omega
      · rw [if_neg (by omega)]; exact h1 j (by omega)
    · rw [hg, if_neg (by omega), if_pos rfl]; omega
    · rw [hg, if_neg (by omega), if_neg (by omega)]; exact h3 j (by omega)
/-- The first 17 digits. -/
theorem dig17 {l : List Nat} {n : Nat} (h : ∀ j, j < n → l.getD j 0 < 256) {k : Nat} (hk : k < n) : le l / 256 ^ k % 256 = l.getD k 0 := by
  induction l generalizing n k with
  | nil => simp [le]
  | cons x l ih =>
    have h0 := h 0 (by omega)
    simp only [List.getD_cons_zero] at h0
    cases k with
    | zero => simp only [le, Nat.pow_zero, Nat.div_one, List.getD_cons_zero]; omega
    | succ k =>
      rw [Nat.pow_succ', ← Nat.div_div_eq_div_mul, le, show (x + 256 * le l) / 256 = le l by omega]
      exact ih (n := n - 1) (fun j hj => by have := h (j + 1) (by omega); simpa using this) (by omega)
theorem top17 {l : List Nat} (hl : l.length = 18) (h : ∀ j, j < 17 → l.getD j 0 < 256) : le l / 256 ^ 16 = l.getD 16 0 + 256 * l.getD 17 0 := by
  have gen : ∀ (n : Nat) (l : List Nat), l.length = n + 2 → (∀ j, j < n → l.getD j 0 < 256) → le l / 256 ^ n = l.getD n 0 + 256 * l.getD (n + 1) 0 := by
    intro n
    induction n with
    | zero =>
      intro l hl _
      match l, hl with
      | [a, b], _ => simp [le]
    | succ n ih =>
      intro l hl h
      match l, hl with
      | x :: l, hl =>
        have h0 := h 0 (by omega)
        simp only [List.getD_cons_zero] at h0
        rw [Nat.pow_succ', ← Nat.div_div_eq_div_mul, le, show (x + 256 * le l) / 256 = le l by omega]
        exact ih l (by simpa using hl) (fun j hj => by have := h (j + 1) (by omega); simpa using this)
  exact gen 16 l hl (fun j hj => h j (by omega))
theorem and255I {n : Nat} (h : n ≤ 1010000) : and64 (n : Int) 255 = ((n % 256 : Nat) : Int) := by
  unfold and64
  have e : (BitVec.ofInt 64 (n : Int) &&& BitVec.ofInt 64 255).toNat = n % 256 := by
    rw [BitVec.toNat_and, BitVec.ofInt_natCast, BitVec.toNat_ofNat, show (BitVec.ofInt 64 255).toNat = 2 ^ 8 - 1 from rfl, Nat.and_two_pow_sub_one_eq_mod]
    omega
  rw [e]
  exact w64_of (by omega) (by omega)
/-- One step of both carries of the law. -/
theorem carry_one (N : Nat) (hN : 4611686018427387904 ≤ N) (s t : List UInt8) {L : List Nat} (hl : L.length = 18) (hb : ∀ j, L.getD j 0 ≤ 1000000) : law11_Poly1305One_12 N s t (il L) = law11_Poly1305One_15 N s t (il (cn L 17)) := by
  unfold law11_Poly1305One_12 law11_Poly1305One_13
  have h17N : 17 < N := by omega
  refine (loopK_run (fun i : Nat => (((i : Int), ()), (s, t, il (cn L i), ()))) (n := 17) ?_ (e := ((), (s, t, il (cn L 17), ()))) ?_ h17N).trans ?_
  · intro i hi
    obtain ⟨q1, q2, q3⟩ := cn_bd hl hb i (by omega)
    have q4 := q3 (i + 1) (by omega)
    have q5 := hb (i + 1)
    have hcl := cn_len L i
    show law11_Poly1305One_s14 N (i : Int) s t _ = _
    unfold law11_Poly1305One_s14
    rw [cn, cst]
    generalize cn L i = C at hcl q1 q2 q3 q4
    have e1 : ((i : Int) + 1).toNat = i + 1 := by omega
    have e2 : ((C.getD (i + 1) 0 : Nat) : Int) + shrI ((C.getD i 0 : Nat) : Int) 8 = ((C.getD (i + 1) 0 + C.getD i 0 / 256 : Nat) : Int) := by rw [shrI8]; omega
    have e3 : (C.set (i + 1) (C.getD (i + 1) 0 + C.getD i 0 / 256)).getD i 0 = C.getD i 0 := by rw [getD_setN C (by omega), if_neg (by omega)]
    have e4 := and255I q2
    have e5 : w64 ((C.getD (i + 1) 0 + C.getD i 0 / 256 : Nat) : Int) = ((C.getD (i + 1) 0 + C.getD i 0 / 256 : Nat) : Int) := w64_of (by omega) (by omega)
    simp (disch := omega) only [dpos, dneg, w64_of, inR_of, room_of, tmod_of, cond_true, cond_false, Bool.and_self, Bool.and_true, Bool.true_and, Bool.and_false, Bool.false_and, Bool.not_true, Bool.not_false, Option.bind_some, List.length_cons, List.length_nil, Nat.zero_add, Int.toNat_natCast, e1, il_get, e2, e5, il_set, e3, e4]
    rw [show ((i : Int) + 1) = ((i + 1 : Nat) : Int) by omega]
  · show law11_Poly1305One_s14 N _ s t _ = _
    unfold law11_Poly1305One_s14
    simp (disch := omega) only [dpos, dneg, w64_of, inR_of, room_of, tmod_of, cond_true, cond_false, Bool.and_self, Bool.and_true, Bool.true_and, Bool.and_false, Bool.false_and, Bool.not_true, Bool.not_false, Option.bind_some, List.length_cons, List.length_nil, Nat.zero_add]
  · dsimp only
theorem carry_two (N : Nat) (hN : 4611686018427387904 ≤ N) (s t : List UInt8) (l : List Int) {L : List Nat} (hl : L.length = 18) (hb : ∀ j, L.getD j 0 ≤ 1000000) : law11_Poly1305One_16 N 0 s t l (il L) = law11_Poly1305One_18 N s t l (il (cn L 17)) := by
  unfold law11_Poly1305One_16
  have h17N : 17 < N := by omega
  refine (loopK_run (fun i : Nat => (((i : Int), ()), (s, t, l, il (cn L i), ()))) (n := 17) ?_ (e := ((), (s, t, l, il (cn L 17), ()))) ?_ h17N).trans ?_
  · intro i hi
    obtain ⟨q1, q2, q3⟩ := cn_bd hl hb i (by omega)
    have q4 := q3 (i + 1) (by omega)
    have q5 := hb (i + 1)
    have hcl := cn_len L i
    show law11_Poly1305One_s17 N (i : Int) s t l _ = _
    unfold law11_Poly1305One_s17
    rw [cn, cst]
    generalize cn L i = C at hcl q1 q2 q3 q4
    have e1 : ((i : Int) + 1).toNat = i + 1 := by omega
    have e2 : ((C.getD (i + 1) 0 : Nat) : Int) + shrI ((C.getD i 0 : Nat) : Int) 8 = ((C.getD (i + 1) 0 + C.getD i 0 / 256 : Nat) : Int) := by rw [shrI8]; omega
    have e3 : (C.set (i + 1) (C.getD (i + 1) 0 + C.getD i 0 / 256)).getD i 0 = C.getD i 0 := by rw [getD_setN C (by omega), if_neg (by omega)]
    have e4 := and255I q2
    have e5 : w64 ((C.getD (i + 1) 0 + C.getD i 0 / 256 : Nat) : Int) = ((C.getD (i + 1) 0 + C.getD i 0 / 256 : Nat) : Int) := w64_of (by omega) (by omega)
    simp (disch := omega) only [dpos, dneg, w64_of, inR_of, room_of, tmod_of, cond_true, cond_false, Bool.and_self, Bool.and_true, Bool.true_and, Bool.and_false, Bool.false_and, Bool.not_true, Bool.not_false, Option.bind_some, List.length_cons, List.length_nil, Nat.zero_add, Int.toNat_natCast, e1, il_get, e2, e5, il_set, e3, e4]
    rw [show ((i : Int) + 1) = ((i + 1 : Nat) : Int) by omega]
  · show law11_Poly1305One_s17 N _ s t l _ = _
    unfold law11_Poly1305One_s17
    simp (disch := omega) only [dpos, dneg, w64_of, inR_of, room_of, tmod_of, cond_true, cond_false, Bool.and_self, Bool.and_true, Bool.true_and, Bool.and_false, Bool.false_and, Bool.not_true, Bool.not_false, Option.bind_some, List.length_cons, List.length_nil, Nat.zero_add]
  · dsimp only
/-- The bytes are those of the tag. -/
theorem one_19 (N : Nat) (hN : 4611686018427387904 ≤ N) {s : List UInt8} (hs : s.length = 16) {C : List Nat} (V : Nat) (dig : ∀ i, i < 16 → C.getD i 0 = V / 256 ^ i % 256) : law11_Poly1305One_19 N s (tagB (V + le (ns s))) (il C) = some ((true, ()), ()) := by
  unfold law11_Poly1305One_19 law11_Poly1305One_20
  have h16N : 16 < N := by omega
  have l1 := tagB_len (V + le (ns s))
  generalize hT : tagB (V + le (ns s)) = T at l1
  refine (loopK_run (fun i : Nat => ((((cc V (le (ns s)) i : Nat) : Int), (i : Int), ()), (s, T, il C, ()))) (n := 16) ?_ (e := ((), ())) ?_ h16N).trans rfl
  · intro i hi
    have q1 := tagB_get (V + le (ns s)) hi
    rw [hT] at q1
    have q3 := le_dig s i
    have q4 := carry_step V (le (ns s)) i
    rw [← cc_eq] at q4
    have q5 : cc V (le (ns s)) i ≤ 1 := by rw [cc_eq]; exact carry_bd V (le (ns s)) i
    have hd := dig i hi
    have q7 := (s.getD i 0).toNat_lt
    show law11_Poly1305One_s21 N _ _ s T _ = _
    unfold law11_Poly1305One_s21
    obtain ⟨X, hX⟩ : ∃ X, X = V / 256 ^ i % 256 + le (ns s) / 256 ^ i % 256 + cc V (le (ns s)) i := ⟨_, rfl⟩
    rw [← hX] at q4
    have hXb : X ≤ 600 := by omega
    have e0 : ((C.getD i 0 : Nat) : Int) + ((s.getD i 0).toNat : Int) = ((C.getD i 0 + (s.getD i 0).toNat : Nat) : Int) := by omega
    have e1 : ((cc V (le (ns s)) i : Nat) : Int) + ((C.getD i 0 + (s.getD i 0).toNat : Nat) : Int) = (X : Int) := by rw [hX, hd, ← q3]; omega
    have e2 : iu8 (X : Int) = T.getD i 0 := byte_eq (by rw [q1]; exact q4.1)
    have e3 : shrI (X : Int) 8 = ((cc V (le (ns s)) (i + 1) : Nat) : Int) := by rw [shrI8, cc_eq, ← q4.2]; omega
    have hc : C.getD i 0 ≤ 255 := by rw [hd]; omega
    simp (disch := omega) only [dpos, dneg, w64_of, inR_of, room_of, tmod_of, cond_true, cond_false, Bool.and_self, Bool.and_true, Bool.true_and, Bool.and_false, Bool.false_and, Bool.not_true, Bool.not_false, Option.bind_some, List.length_cons, List.length_nil, Nat.zero_add, Int.toNat_natCast, il_get, e0, e1, e2, e3, decide_true, Int.natCast_one]
    rw [show ((i : Int) + 1) = ((i + 1 : Nat) : Int) by omega]
  · show law11_Poly1305One_s21 N _ _ s T _ = _
    unfold law11_Poly1305One_s21
    simp (disch := omega) only [dpos, dneg, w64_of, inR_of, room_of, tmod_of, cond_true, cond_false, Bool.and_self, Bool.and_true, Bool.true_and, Bool.and_false, Bool.false_and, Bool.not_true, Bool.not_false, Option.bind_some, List.length_cons, List.length_nil, Nat.zero_add]
theorem one_12 (N : Nat) (hN : 4611686018427387904 ≤ N) {s : List UInt8} (hs : s.length = 16) {L : List Nat} (hl : L.length = 18) (hb : ∀ j, L.getD j 0 ≤ 900000) (hv : le L < 2041694201525630780780247644590609268736) : law11_Poly1305One_12 N s (tagB (le L % pp + le (ns s))) (il L) = some ((true, ()), ()) := by
  rw [carry_one N hN s _ hl (fun j => Nat.le_trans (hb j) (by decide))]
  unfold law11_Poly1305One_15
  have b1 := cn_bd hl (fun j => Nat.le_trans (hb j) (by decide)) 17 (by omega)
  have v1 := cn_le hl 17 (by omega)
  have l1 := cn_len L 17
  rw [hl] at l1
  have hb17 : (cn L 17).getD 17 0 ≤ 1010000 := b1.2.1
  generalize cn L 17 = C at b1 v1 l1 hb17
  have g0 := b1.1 0 (by omega)
  have e0 : w64 ((il C).getD 0 0 + 5) = ((C.getD 0 0 + 5 : Nat) : Int) := by rw [il_get, w64_of (by omega) (by omega)]; omega
  have e17 : C.getD 17 0 ≤ 1000000 := by
    have ht := top17 l1 b1.1
    have e16 : (256 : Nat) ^ 16 = 340282366920938463463374607431768211456 := by decide
    rw [e16] at ht
    omega
  rw [e0, il_set]
  have l2 : (C.set 0 (C.getD 0 0 + 5)).length = 18 := by simp [l1]
  have b2 : ∀ j, (C.set 0 (C.getD 0 0 + 5)).getD j 0 ≤ 1000000 := by
    intro j
    rw [getD_setN C (by omega)]
    split
    · omega
    · rcases (by omega : j < 17 ∨ j = 17 ∨ 17 < j) with h | h | h
      · have := b1.1 j h; omega
      · subst h; exact e17
      · have : C.getD j 0 = 0 := by simp [List.getD, List.getElem?_eq_none (show C.length ≤ j by omega)]
        omega
  rw [carry_two N hN s _ _ l2 b2]
  have v2 := cn_le l2 17 (by omega)
  have vs := le_setN C (i := 0) (by omega) (C.getD 0 0 + 5)
  rw [Nat.pow_zero, Nat.mul_one, Nat.mul_one] at vs
  have b3 := cn_bd l2 b2 17 (by omega)
  have l3 := cn_len (C.set 0 (C.getD 0 0 + 5)) 17
  rw [l2] at l3
  generalize cn (C.set 0 (C.getD 0 0 + 5)) 17 = D at v2 b3 l3
  have vD : le D = le L + 5 := by omega
  have t3 := top17 l3 b3.1
  have e16 : (256 : Nat) ^ 16 = 340282366920938463463374607431768211456 := by decide
  rw [e16, vD] at t3
  unfold law11_Poly1305One_18
  have h16 := b3.1 16 (by omega)
  have h17 : D.getD 17 0 ≤ 1010000 := b3.2.1
  have e1 : w64 ((il D).getD 16 0 + w64 (256 * (il D).getD 17 0)) = ((D.getD 16 0 + 256 * D.getD 17 0 : Nat) : Int) := by
    have ei : w64 (256 * ((D.getD 17 0 : Nat) : Int)) = 256 * ((D.getD 17 0 : Nat) : Int) := w64_of (by omega) (by omega)
    rw [il_get, il_get, ei, w64_of (by omega) (by omega)]; omega
  rw [e1, ← t3]
  by_cases hq : (4 : Int) ≤ (((le L + 5) / 340282366920938463463374607431768211456 : Nat) : Int)
  · rw [dpos hq, cond_true]
    have ht : tagB (le L % pp + le (ns s)) = tagB (le L + 5 + le (ns s)) := by
      have hge : 4 ≤ (le L + 5) / 340282366920938463463374607431768211456 := by omega
      have hL : 1361129467683753853853498429727072845819 ≤ le L := by omega
      have hg : le L % pp + 1361129467683753853853498429727072845819 = le L := by unfold pp; omega
      have he : le L + 5 + le (ns s) = (le L % pp + le (ns s)) + 4 * 340282366920938463463374607431768211456 := by omega
      rw [he]
      apply tagB_mod'
      rw [Nat.add_mul_mod_self_right]
    rw [ht]
    exact one_19 N hN hs _ (fun i hi => by rw [← vD]; exact (dig17 b3.1 (by omega)).symm)
  · rw [dneg hq, cond_false]
    have ht : le L % pp = le L := Nat.mod_eq_of_lt (by unfold pp; omega)
    rw [ht]
    exact one_19 N hN hs _ (fun i hi => by rw [← v1]; exact (dig17 b1.1 (by omega)).symm)
/-- A piece is added. -/
theorem one_piece (N : Nat) (hN : 4611686018427387904 ≤ N) {b : List UInt8} {at_ n : Nat} (s t : List UInt8) {L : List Nat} {D : Nat} (hl : L.length = 18) (hb : ∀ j, L.getD j 0 ≤ D) (hD : D ≤ 100000) (hn : n ≤ 16) (hbl : at_ + n ≤ b.length) (hbb : b.length ≤ 48) :
    ∃ L', law11_Poly1305One_8 N b (at_ : Int) (n : Int) 0 s t (il L) = some (.go ((b, ((at_ : Int) + 16), ()), (s, t, il L', ()))) ∧ L'.length = 18 ∧ (∀ j, L'.getD j 0 ≤ D + 256) ∧ le L' = le L + le (ns ((b.drop at_).take n ++ [1])) := by
  unfold law11_Poly1305One_8
  have := loopK_of (N := N) (step := fun y => law11_Poly1305One_s9 N y.1.1 y.1.2.1 y.1.2.2.1 y.1.2.2.2.1 y.2.1 y.2.2.1 y.2.2.2.1) (J := fun (e : (((List UInt8) × Int × Int × Unit) × ((List UInt8) × (List UInt8) × (List Int) × Unit))) => law11_Poly1305One_10 N e.1.1 e.1.2.1 e.1.2.2.1 e.2.1 e.2.2.1 e.2.2.2.1)
    (I := fun y => ∃ (i : Nat) (L' : List Nat), y = ((b, (at_ : Int), (n : Int), (i : Int), ()), (s, t, il L', ())) ∧ i ≤ n ∧ L'.length = 18 ∧ (∀ j, L'.getD j 0 ≤ D + 255) ∧ (∀ j, i ≤ j → L'.getD j 0 ≤ D) ∧ le L' = le L + le (ns ((b.drop at_).take i)))
    (μ := fun y => ((n : Int) - y.1.2.2.2.1).toNat)
    (T := fun x => ∃ L', x = .go ((b, ((at_ : Int) + 16), ()), (s, t, il L', ())) ∧ L'.length = 18 ∧ (∀ j, L'.getD j 0 ≤ D + 256) ∧ le L' = le L + le (ns ((b.drop at_).take n ++ [1]))) ?_
    (x := ((b, (at_ : Int), (n : Int), 0, ()), (s, t, il L, ()))) ⟨0, L, rfl, by omega, hl, fun j => by have := hb j; omega, fun j _ => hb j, by simp [ns, le]⟩ (by simp only; omega)
  · obtain ⟨x, h1, L', rfl, h2⟩ := this
    exact ⟨L', h1, h2⟩
  · rintro ⟨⟨b', a', n', i', _⟩, ⟨s', t', l', _⟩⟩ ⟨i, L', e1, hi, hl', d1, d2, v⟩
    simp only [Prod.mk.injEq] at e1
    obtain ⟨⟨rfl, rfl, rfl, rfl, _⟩, rfl, rfl, rfl, _⟩ := e1
    show ∃ o, law11_Poly1305One_s9 N b' (at_ : Int) (n : Int) (i : Int) s' t' (il L') = some o ∧ _
    unfold law11_Poly1305One_s9
    by_cases hin : i < n
    · have hx : ((at_ : Int) + (i : Int)).toNat = at_ + i := by omega
      have hbyte := (b'.getD (at_ + i) 0).toNat_lt
      have hd := d2 i (Nat.le_refl _)
      have ew : w64 (((L'.getD i 0 : Nat) : Int) + ((b'.getD (at_ + i) 0).toNat : Int)) = ((L'.getD i 0 + (b'.getD (at_ + i) 0).toNat : Nat) : Int) := by rw [w64_of (by omega) (by omega)]; omega
      simp (disch := omega) only [dpos, inR_of, w64_of, cond_true, hx, Int.toNat_natCast, il_get]
      rw [show ((L'.getD i 0 : Nat) : Int) + ((b'.getD (at_ + i) 0).toNat : Int) = ((L'.getD i 0 + (b'.getD (at_ + i) 0).toNat : Nat) : Int) by omega, il_set]
      have hs := le_setN L' (i := i) (by omega) (L'.getD i 0 + (b'.getD (at_ + i) 0).toNat)
      refine ⟨_, rfl, ⟨i + 1, _, rfl, by omega, by simp [hl'], ?_, ?_, ?_⟩, by simp only; omega⟩
      · intro j
        rw [getD_setN L' (by omega)]
        split
        · omega
        · exact d1 j
      · intro j hj
        rw [getD_setN L' (by omega), if_neg (by omega)]; exact d2 j (by omega)
      · rw [take_snoc _ 0 (by simp; omega)]
        have e2 : ns ((b'.drop at_).take i ++ [(b'.drop at_).getD i 0]) = ns ((b'.drop at_).take i) ++ [((b'.drop at_).getD i 0).toNat] := by simp [ns]
        have e3 : (ns ((b'.drop at_).take i)).length = i := by simp [ns]; omega
        have e4 : (b'.drop at_).getD i 0 = b'.getD (at_ + i) 0 := by simp [List.getD]
        rw [e2, le_append, e3, e4]
        rw [Nat.add_mul] at hs
        omega
    · have e : i = n := by omega
      subst e
      simp (disch := omega) only [dpos, dneg, w64_of, inR_of, room_of, tmod_of, cond_true, cond_false, Bool.and_self, Bool.and_true, Bool.true_and, Bool.and_false, Bool.false_and, Bool.not_true, Bool.not_false, Option.bind_some, List.length_cons, List.length_nil, Nat.zero_add]
      refine ⟨_, rfl, ?_⟩
      have hd := d2 i (Nat.le_refl _)
      have hs := le_setN L' (i := i) (by omega) (L'.getD i 0 + 1)
      rw [Nat.add_mul, Nat.one_mul] at hs
      have e3 : (ns ((b'.drop at_).take i)).length = i := by simp [ns]; omega
      have e2 : ns ((b'.drop at_).take i ++ [1]) = ns ((b'.drop at_).take i) ++ [1] := by simp [ns]
      refine ⟨_, ?_, L'.set i (L'.getD i 0 + 1), rfl, by simp [hl'], ?_, ?_⟩
      · show law11_Poly1305One_10 N b' (at_ : Int) (i : Int) s' t' (il L') = _
        unfold law11_Poly1305One_10 law11_Poly1305One_11
        have ew : w64 ((il L').getD i 0 + 1) = ((L'.getD i 0 + 1 : Nat) : Int) := by rw [il_get, w64_of (by omega) (by omega)]; omega
        simp (disch := omega) only [dpos, inR_of, cond_true, Int.toNat_natCast, ew, il_set]
        rw [w64_of (by omega) (by omega)]
      · intro j
        rw [getD_setN L' (by omega)]
        split
        · omega
        · have := d1 j; omega
      · rw [e2, le_append, e3, Nat.one_mul]
        omega
theorem one_3 (N : Nat) (hN : 4611686018427387904 ≤ N) {b s : List UInt8} (hs : s.length = 16) (hb : b.length ≤ 48) : law11_Poly1305One_3 N b 0 s (tagB (acc 1 0 b + le (ns s))) (List.replicate 18 0) = some ((true, ()), ()) := by
  unfold law11_Poly1305One_3
  have h256 : (256 : Nat) ^ 17 = 87112285931760246646623899502532662132736 := by decide
  have := loopK_of (N := N) (step := fun y => law11_Poly1305One_s4 N y.1.1 y.1.2.1 y.2.1 y.2.2.1 y.2.2.2.1) (J := fun (e : ((Unit) × ((List UInt8) × (List UInt8) × (List Int) × Unit))) => law11_Poly1305One_12 N e.2.1 e.2.2.1 e.2.2.2.1)
    (I := fun y => ∃ (a : Nat) (L : List Nat), y = ((b, ((16 * a : Nat) : Int), ()), (s, tagB (acc 1 0 b + le (ns s)), il L, ())) ∧ 16 * a ≤ b.length + 15 ∧ L.length = 18 ∧ (∀ j, L.getD j 0 ≤ 256 * a) ∧ le L ≤ 680564733841876926926749214863536422911 * a ∧ acc 1 (le L % pp) (b.drop (16 * a)) = acc 1 0 b)
    (μ := fun y => ((b.length : Int) - y.1.2.1).toNat)
    (T := fun x => x = ((true, ()), ())) ?_
    (x := ((b, 0, ()), (s, tagB (acc 1 0 b + le (ns s)), List.replicate 18 0, ()))) ⟨0, List.replicate 18 0, rfl, by omega, by simp, fun j => by
      rw [List.getD_eq_getElem?_getD, List.getElem?_replicate]; split <;> simp, by decide, by
      have e : le (List.replicate 18 0) = 0 := by decide
      rw [e, Nat.zero_mod, Nat.mul_zero, List.drop_zero]⟩ (by simp only; omega)
  · obtain ⟨x, h1, rfl⟩ := this
    exact h1
  · rintro ⟨⟨b', a', _⟩, ⟨s', t', l', _⟩⟩ ⟨a, L, e1, ha, hl, hd, hv, hacc⟩
    simp only [Prod.mk.injEq] at e1
    obtain ⟨⟨rfl, rfl, _⟩, rfl, rfl, rfl, _⟩ := e1
    show ∃ o, law11_Poly1305One_s4 N b' ((16 * a : Nat) : Int) s' _ (il L) = some o ∧ _
    unfold law11_Poly1305One_s4
    by_cases hlt : 16 * a < b'.length
    · simp (disch := omega) only [dpos, dneg, w64_of, inR_of, room_of, tmod_of, cond_true, cond_false, Bool.and_self, Bool.and_true, Bool.true_and, Bool.and_false, Bool.false_and, Bool.not_true, Bool.not_false, Option.bind_some, List.length_cons, List.length_nil, Nat.zero_add]
      unfold law11_Poly1305One_5 law11_Poly1305One_7
      have hx : (bif decide (w64 ((b'.length : Int) - ((16 * a : Nat) : Int)) < 16) then w64 ((b'.length : Int) - ((16 * a : Nat) : Int)) else 16) = ((min 16 (b'.length - 16 * a) : Nat) : Int) := by
        rw [w64_of (by omega) (by omega)]
        by_cases h : (b'.length : Int) - ((16 * a : Nat) : Int) < 16
        · rw [dpos h, cond_true]; omega
        · rw [dneg h, cond_false]; omega
      simp only [hx]
      obtain ⟨L', p1, p2, p3, p4⟩ := one_piece N hN (b := b') (at_ := 16 * a) (n := min 16 (b'.length - 16 * a)) s' (tagB (acc 1 0 b' + le (ns s'))) hl hd (by omega) (by omega) (by omega) hb
      have ht : (b'.drop (16 * a)).take (min 16 (b'.length - 16 * a)) = (b'.drop (16 * a)).take 16 := by
        by_cases h : 16 ≤ b'.length - 16 * a
        · rw [Nat.min_eq_left h]
        · rw [Nat.min_eq_right (by omega), List.take_of_length_le (by simp), List.take_of_length_le (by simp; omega)]
      rw [ht] at p4
      have hn : ns ((b'.drop (16 * a)).take 16 ++ [1]) = ((b'.drop (16 * a)).take 16).map UInt8.toNat ++ [1] := by simp [ns]
      have hpl : le (ns ((b'.drop (16 * a)).take 16 ++ [1])) ≤ 680564733841876926926749214863536422911 := by
        have h1 := le_lt ((b'.drop (16 * a)).take 16)
        have hq : ((b'.drop (16 * a)).take 16).length ≤ 16 := by simp; omega
        have h2 : 256 ^ ((b'.drop (16 * a)).take 16).length ≤ 256 ^ 16 := Nat.pow_le_pow_right (by decide) hq
        have e16 : (256 : Nat) ^ 16 = 340282366920938463463374607431768211456 := by decide
        rw [hn, le_append]
        have hlen : (List.map UInt8.toNat ((b'.drop (16 * a)).take 16)).length = ((b'.drop (16 * a)).take 16).length := List.length_map ..
        rw [hlen, Nat.one_mul]
        unfold ns at h1
        omega
      refine ⟨_, p1, ⟨a + 1, L', ?_, by omega, p2, fun j => by have := p3 j; omega, by omega, ?_⟩, by simp only; omega⟩
      · rw [show ((16 * a : Nat) : Int) + 16 = ((16 * (a + 1) : Nat) : Int) by omega]
      · have hne : b'.drop (16 * a) ≠ [] := by intro e; have := congrArg List.length e; simp at this; omega
        rw [← hacc, acc_step _ _ hne, List.drop_drop, show 16 * (a + 1) = 16 * a + 16 by omega]
        congr 1
        rw [p4, hn, Nat.mul_one, Nat.mod_add_mod]
    · simp (disch := omega) only [dpos, dneg, w64_of, inR_of, room_of, tmod_of, cond_true, cond_false, Bool.and_self, Bool.and_true, Bool.true_and, Bool.and_false, Bool.false_and, Bool.not_true, Bool.not_false, Option.bind_some, List.length_cons, List.length_nil, Nat.zero_add]
      refine ⟨_, rfl, _, ?_, rfl⟩
      rw [List.drop_of_length_le (by omega), acc_nil] at hacc
      show law11_Poly1305One_12 N s' (tagB (acc 1 0 b' + le (ns s'))) (il L) = _
      rw [← hacc]
      exact one_12 N hN hs hl (fun j => by have := hd j; omega) (by omega)
theorem one_1 (N : Nat) (hN : 4611686018427387904 ≤ N) (codes : List UInt8) {b : List UInt8} (hb : b.length ≤ 48) : law11_Poly1305One_1 N codes b = some ((true, ()), ()) := by
  unfold law11_Poly1305One_1
  obtain ⟨c0, e0, k0⟩ := new_ok N codes (m := 40) (by omega) (by omega)
  obtain ⟨c1, s, e1, l1, k1⟩ := bytes_ok (N := N) (n := 16) k0 (by omega) (by omega) (by omega)
  have hs : s.length = 16 := l1
  have hset : (List.replicate 16 (0 : UInt8) ++ s).set 0 1 = (1 :: List.replicate 15 0) ++ s := rfl
  have hkl : ((1 :: List.replicate 15 (0 : UInt8)) ++ s).length = 32 := by simp [hs]
  have hl32 : (List.replicate 16 (0 : UInt8) ++ s).length = 32 := by simp [hs]
  have ht : tag ((1 :: List.replicate 15 (0 : UInt8)) ++ s) b = tagB (acc 1 0 b + le (ns s)) := by
    unfold tag kr ks
    have h1 : ((1 :: List.replicate 15 (0 : UInt8)) ++ s).take 16 = 1 :: List.replicate 15 0 := List.take_left' (by simp)
    have h2 : ((1 :: List.replicate 15 (0 : UInt8)) ++ s).drop 16 = s := List.drop_left' (by simp)
    have h3 : le (ns (clm (1 :: List.replicate 15 0))) = 1 := by decide
    rw [h1, h2, h3]
  have hsum := sum_ok N hN hkl (b := b) (by omega) (by omega)
  rw [ht] at hsum
  have htl := tagB_len (acc 1 0 b + le (ns s))
  have hr : inR (0 : Int) (List.replicate 16 (0 : UInt8) ++ s).length = true := by rw [hl32]; rfl
  simp (disch := omega) only [dpos, dneg, w64_of, inR_of, room_of, tmod_of, cond_true, cond_false, Bool.and_self, Bool.and_true, Bool.true_and, Bool.and_false, Bool.false_and, Bool.not_true, Bool.not_false, Option.bind_some, List.length_cons, List.length_nil, Nat.zero_add, e0, e1, List.length_replicate, hset, hr, hsum]
  unfold law11_Poly1305One_2
  simp only [cond_false]
  exact one_3 N hN hs hb
theorem one_ (codes : List UInt8) (hc : codes.length ≤ 9223372036854775807) (b : List UInt8) (hb : b.length ≤ 9223372036854775807) : law11_Poly1305One 18446744073709551616 codes b = some ((true, ()), ()) := by
  unfold law11_Poly1305One
  rw [awake11]
  generalize hN0 : 18446744073709551616 = N
  have hN : 4611686018427387904 ≤ N := by omega
  clear hN0
  by_cases h : (48 : Int) < (b.length : Int)
  · have hc : (cut b 0 48).length ≤ 48 := by simp [cut]; omega
    simp (disch := omega) only [dpos, dneg, w64_of, inR_of, room_of, tmod_of, cond_true, cond_false, Bool.and_self, Bool.and_true, Bool.true_and, Bool.and_false, Bool.false_and, Bool.not_true, Bool.not_false, Option.bind_some, List.length_cons, List.length_nil, Nat.zero_add, one_1]
  · simp (disch := omega) only [dpos, dneg, w64_of, inR_of, room_of, tmod_of, cond_true, cond_false, Bool.and_self, Bool.and_true, Bool.true_and, Bool.and_false, Bool.false_and, Bool.not_true, Bool.not_false, Option.bind_some, List.length_cons, List.length_nil, Nat.zero_add, one_1]
end
end Go.Proofs.Ytlamdneheilahaa.Pl
