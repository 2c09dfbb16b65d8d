/- Plain: the reference's tag of Poly1305 is the program's. -/
import Derived.Test.YtlamdneheilahaaDoorAeQPolyRefA
import Derived.Test.YtlamdneheilahaaDoorAeQPolyCarry
import Derived.Test.YtlamdneheilahaaDoorFnsAeadReturnsB
set_option linter.unusedVariables false
set_option linter.unusedSimpArgs false
namespace Go.Proofs.YtlamdneheilahaaDoor.Pl
open Go Poly
noncomputable section
theorem list32 {α : Type} {l : List α} (h : l.length = 32) : ∃ a b c d e f g i j k m n o p q r t, t.length = 16 ∧ l = [a, b, c, d, e, f, g, i, j, k, m, n, o, p, q, r] ++ t := by
  obtain ⟨a, b, c, d, e, f, g, i, j, k, m, n, o, p, q, r, e1⟩ := list16 (l := l.take 16) (by simp; omega)
  exact ⟨a, b, c, d, e, f, g, i, j, k, m, n, o, p, q, r, l.drop 16, by simp; omega, by rw [← e1, List.take_append_drop]⟩
theorem rclamp_un (M : Nat) (a b c d e f g i j k m n o p q r a' b' c' d' e' f' g' i' j' k' m' n' o' p' q' r' : UInt8) :
    ref11_clamp (M + 20) [a, b, c, d, e, f, g, i, j, k, m, n, o, p, q, r, a', b', c', d', e', f', g', i', j', k', m', n', o', p', q', r'] =
    some (([a.toUInt32, b.toUInt32, c.toUInt32, d.toUInt32 &&& 15, e.toUInt32 &&& 252, f.toUInt32, g.toUInt32, i.toUInt32 &&& 15, j.toUInt32 &&& 252, k.toUInt32, m.toUInt32, n.toUInt32 &&& 15, o.toUInt32 &&& 252, p.toUInt32, q.toUInt32, r.toUInt32 &&& 15, 0], ()), ()) := by kernel_rfl
theorem u32_15 (x : UInt8) : (x.toUInt32 &&& 15).toNat = (x &&& 15).toNat := by
  rw [UInt32.toNat_and, UInt8.toNat_toUInt32, UInt8.toNat_and]; rfl
theorem u32_252 (x : UInt8) : (x.toUInt32 &&& 252).toNat = (x &&& 252).toNat := by
  rw [UInt32.toNat_and, UInt8.toNat_toUInt32, UInt8.toNat_and]; rfl
theorem rclamp_ok (N : Nat) (hN : 4611686018427387904 ≤ N) {key : List UInt8} (hk : key.length = 32) : ∃ r, ref11_clamp N key = some ((r, ()), ()) ∧ r.length = 17 ∧ Can r ∧ le (dn r) = kr key := by
  obtain ⟨M, rfl⟩ := Nat.exists_eq_add_of_le' (show 20 ≤ N by omega)
  obtain ⟨a, b, c, d, e, f, g, i, j, k, m, n, o, p, q, r, t, ht, rfl⟩ := list32 hk
  obtain ⟨a', b', c', d', e', f', g', i', j', k', m', n', o', p', q', r', rfl⟩ := list16 ht
  refine ⟨_, rclamp_un M a b c d e f g i j k m n o p q r a' b' c' d' e' f' g' i' j' k' m' n' o' p' q' r', rfl, ⟨?_, ?_⟩, ?_⟩
  · intro x hx
    have ub : ∀ y : UInt8, y.toUInt32.toNat ≤ 255 := fun y => by rw [UInt8.toNat_toUInt32]; have := y.toNat_lt; omega
    have u15 : ∀ y : UInt8, (y.toUInt32 &&& 15).toNat ≤ 255 := fun y => by rw [u32_15]; have := (y &&& 15).toNat_lt; omega
    have u252 : ∀ y : UInt8, (y.toUInt32 &&& 252).toNat ≤ 255 := fun y => by rw [u32_252]; have := (y &&& 252).toNat_lt; omega
    simp only [List.mem_cons, List.not_mem_nil, or_false] at hx
    rcases hx with rfl | rfl | rfl | rfl | rfl | rfl | rfl | rfl | rfl | rfl | rfl | rfl | rfl | rfl | rfl | rfl | rfl <;> first | exact ub _ | exact u15 _ | exact u252 _ | decide
  · intro x hx
    obtain rfl : (0 : UInt32) = x := by simpa using hx
    decide
  · have h : dn [a.toUInt32, b.toUInt32, c.toUInt32, d.toUInt32 &&& 15, e.toUInt32 &&& 252, f.toUInt32, g.toUInt32, i.toUInt32 &&& 15, j.toUInt32 &&& 252, k.toUInt32, m.toUInt32, n.toUInt32 &&& 15, o.toUInt32 &&& 252, p.toUInt32, q.toUInt32, r.toUInt32 &&& 15, 0] =
        ns (clm [a, b, c, d, e, f, g, i, j, k, m, n, o, p, q, r]) ++ [0] := by
      simp only [dn, List.map_cons, List.map_nil, u32_15, u32_252, UInt8.toNat_toUInt32]
      rfl
    rw [h, le_append, Nat.zero_mul, Nat.add_zero]
    rfl
theorem le_set (l : List UInt32) {i : Nat} (hi : i < l.length) (x : UInt32) (y : Nat) (h : x.toNat = (l.getD i 0).toNat + y) : le (dn (l.set i x)) = le (dn l) + y * 256 ^ i := by
  induction l generalizing i with
  | nil => simp at hi
  | cons z l ih =>
    cases i with
    | zero =>
      simp only [List.set_cons_zero, dn, List.map_cons, le, Nat.pow_zero, List.getD_cons_zero] at h ⊢
      omega
    | succ i =>
      have := ih (by simpa using hi) (by simpa using h)
      have e1 : le (dn ((z :: l).set (i + 1) x)) = z.toNat + 256 * le (dn (l.set i x)) := rfl
      have e2 : le (dn (z :: l)) = z.toNat + 256 * le (dn l) := rfl
      rw [e1, e2, this, Nat.mul_add, Nat.pow_succ, ← Nat.add_assoc, Nat.mul_comm (256 ^ i) 256, Nat.mul_left_comm]
theorem dn_dig {l : List UInt32} (h : ∀ x ∈ l, x.toNat ≤ 255) (k : Nat) : le (dn l) / 256 ^ k % 256 = (l.getD k 0).toNat := by
  induction l generalizing k with
  | nil => simp [dn, le]
  | cons x l ih =>
    have h1 := h x (by simp)
    have e : le (dn (x :: l)) = x.toNat + 256 * le (dn l) := rfl
    rw [e]
    cases k with
    | zero => simp only [Nat.pow_zero, Nat.div_one, List.getD_cons_zero]; omega
    | succ k =>
      rw [Nat.pow_succ', ← Nat.div_div_eq_div_mul, show (x.toNat + 256 * le (dn l)) / 256 = le (dn l) by omega]
      exact ih (fun y hy => h y (by simp [hy])) k
/-- A piece is added to the digits. -/
theorem rpiece (N : Nat) (hN : 4611686018427387904 ≤ N) {key b : List UInt8} {at_ n : Nat} {r h : List UInt32} (hl : h.length = 17) (hc : Can h) (lr : r.length = 17) (cr : Can r) (hn : n ≤ 16) (hb : at_ + n ≤ b.length) (hbl : b.length ≤ 9223372036854775000) :
    ∃ h', ref11_Sum_6 N key b (at_ : Int) (n : Int) 0 r h = some (.go ((key, b, ((at_ : Int) + 16), ()), (r, h', ()))) ∧ h'.length = 17 ∧ Can h' ∧ le (dn h') % pp = (le (dn h) + le (ns ((b.drop at_).take n ++ [1]))) * le (dn r) % pp ∧ le (dn h') < b130 := by
  unfold ref11_Sum_6
  have := loopK_of (N := N) (step := fun y => ref11_Sum_s7 N y.1.1 y.1.2.1 y.1.2.2.1 y.1.2.2.2.1 y.1.2.2.2.2.1 y.2.1 y.2.2.1) (J := fun (e : (((List UInt8) × (List UInt8) × Int × Int × Unit) × ((List UInt32) × (List UInt32) × Unit))) => ref11_Sum_8 N e.1.1 e.1.2.1 e.1.2.2.1 e.1.2.2.2.1 e.2.1 e.2.2.1)
    (I := fun y => ∃ i : Nat, y = ((key, b, (at_ : Int), (n : Int), (i : Int), ()), (r, y.2.2.1, ())) ∧ i ≤ n ∧ y.2.2.1.length = 17 ∧ (∀ j, (y.2.2.1.getD j 0).toNat ≤ 510) ∧ (∀ j, i ≤ j → (y.2.2.1.getD j 0).toNat ≤ 255) ∧ le (dn y.2.2.1) = le (dn h) + le (ns ((b.drop at_).take i)))
    (μ := fun y => ((n : Int) - y.1.2.2.2.2.1).toNat)
    (T := fun x => ∃ h', x = .go ((key, b, ((at_ : Int) + 16), ()), (r, h', ())) ∧ h'.length = 17 ∧ Can h' ∧ le (dn h') % pp = (le (dn h) + le (ns ((b.drop at_).take n ++ [1]))) * le (dn r) % pp ∧ le (dn h') < b130) ?_
    (x := ((key, b, (at_ : Int), (n : Int), 0, ()), (r, h, ()))) ⟨0, rfl, by omega, hl, fun j => by have := can_get hc j; simp only; omega, fun j _ => can_get hc j, by simp [ns, le]⟩ (by simp only; omega)
  · obtain ⟨x, h1, h', rfl, h2⟩ := this
    exact ⟨h', h1, h2⟩
  · rintro ⟨⟨key', b', a', n', i', _⟩, ⟨r', h', _⟩⟩ ⟨i, e1, hi, l', d1, d2, v⟩
    simp only [Prod.mk.injEq] at e1
    obtain ⟨⟨rfl, rfl, rfl, rfl, rfl, _⟩, rfl, _⟩ := e1
    simp only at l' d1 d2 v ⊢
    show ∃ o, ref11_Sum_s7 N key' b' (at_ : Int) (n : Int) (i : Int) r' h' = some o ∧ _
    unfold ref11_Sum_s7
    by_cases hin : i < n
    · have hx : ((at_ : Int) + (i : Int)).toNat = at_ + i := by omega
      have hu : ((b'.getD (at_ + i) 0).toUInt32).toNat = (b'.getD (at_ + i) 0).toNat := UInt8.toNat_toUInt32 _
      have hbyte := (b'.getD (at_ + i) 0).toNat_lt
      have hd := d2 i (Nat.le_refl _)
      have hadd : (h'.getD i 0 + (b'.getD (at_ + i) 0).toUInt32).toNat = (h'.getD i 0).toNat + (b'.getD (at_ + i) 0).toNat := by rw [add32 (by rw [hu]; omega), hu]
      simp (disch := omega) only [dpos, dneg, w64_of, inR_of, room_of, tmod_of, cond_true, cond_false, Bool.and_self, Bool.and_true, Bool.true_and, Bool.and_false, Bool.false_and, Bool.not_true, Bool.not_false, Option.bind_some, List.length_cons, List.length_nil, Nat.zero_add, hx, Int.toNat_natCast]
      refine ⟨_, rfl, ⟨i + 1, rfl, by omega, by simp [l'], ?_, ?_, ?_⟩, by simp only; omega⟩
      · intro j
        by_cases e : i = j
        · subst e; rw [List.getD_eq_getElem?_getD, List.getElem?_set_self (by omega)]; simp only [Option.getD_some]; omega
        · rw [List.getD_eq_getElem?_getD, List.getElem?_set_ne e, ← List.getD_eq_getElem?_getD]; exact d1 j
      · intro j hj
        rw [List.getD_eq_getElem?_getD, List.getElem?_set_ne (by omega), ← List.getD_eq_getElem?_getD]; exact d2 j (by omega)
      · rw [le_set h' (by omega) _ _ hadd, v, take_snoc _ 0 (by simp; omega)]
        have e2 : ns ((b'.drop at_).take i ++ [(b'.drop at_).getD i 0]) = ns ((b'.drop at_).take i) ++ [((b'.drop at_).getD i 0).toNat] := by simp [ns]
        have e3 : (ns ((b'.drop at_).take i)).length = i := by simp [ns]; omega
        have e4 : (b'.drop at_).getD i 0 = b'.getD (at_ + i) 0 := by simp [List.getD]
        rw [e2, le_append, e3, e4, Nat.add_assoc]
    · have e : i = n := by omega
      subst e
      simp (disch := omega) only [dpos, dneg, w64_of, inR_of, room_of, tmod_of, cond_true, cond_false, Bool.and_self, Bool.and_true, Bool.true_and, Bool.and_false, Bool.false_and, Bool.not_true, Bool.not_false, Option.bind_some, List.length_cons, List.length_nil, Nat.zero_add]
      refine ⟨_, rfl, ?_⟩
      have hd := d2 i (Nat.le_refl _)
      have q : (1 : UInt32).toNat = 1 := rfl
      have hadd : (h'.getD i 0 + 1).toNat = (h'.getD i 0).toNat + 1 := by rw [add32 (by rw [q]; omega), q]
      have e3 : (ns ((b'.drop at_).take i)).length = i := by simp [ns]; omega
      have e2 : ns ((b'.drop at_).take i ++ [1]) = ns ((b'.drop at_).take i) ++ [1] := by simp [ns]
      have hv : le (dn (h'.set i (h'.getD i 0 + 1))) = le (dn h) + le (ns ((b'.drop at_).take i ++ [1])) := by
        rw [le_set h' (by omega) _ _ hadd, v, e2, le_append, e3, Nat.add_assoc]
      obtain ⟨h1, c1, c2, c3, c4, c5⟩ := rcarry_ok N hN (l := h'.set i (h'.getD i 0 + 1)) (by simp [l']) (by
        intro x hx
        obtain ⟨j, hj, rfl⟩ := List.getElem_of_mem hx
        have hj' : j < 17 := by simpa [l'] using hj
        by_cases ej : i = j
        · subst ej; simp only [List.getElem_set_self]; omega
        · rw [List.getElem_set_ne ej]
          have := d1 j
          have eg : h'.getD j 0 = h'[j]'(by omega) := by simp [List.getD, l', hj']
          rw [eg] at this; omega)
      obtain ⟨h2, p1, p2, p3, p4, p5⟩ := rprod_ok N hN c3 cr c2 lr
      refine ⟨_, ?_, h2, rfl, p2, p3, ?_, p5⟩
      · show ref11_Sum_8 N key' b' (at_ : Int) (i : Int) r' h' = _
        unfold ref11_Sum_8 ref11_Sum_9
        simp (disch := omega) only [dpos, dneg, w64_of, inR_of, room_of, tmod_of, cond_true, cond_false, Bool.and_self, Bool.and_true, Bool.true_and, Bool.and_false, Bool.false_and, Bool.not_true, Bool.not_false, Option.bind_some, List.length_cons, List.length_nil, Nat.zero_add, Int.toNat_natCast, c1, p1]
      · rw [p4, Nat.mul_mod, c4, hv, ← Nat.mul_mod]
/-- What is carried when 5 is added. -/
def uc (V : Nat) : Nat → UInt32
  | 0 => 5
  | i + 1 => UInt32.ofNat ((V % 256 ^ (i + 1) + 5) / 256 ^ (i + 1))
theorem uc_bd (V i : Nat) : (V % 256 ^ i + 5) / 256 ^ i ≤ 5 := by
  have hp : 0 < 256 ^ i := Nat.pow_pos (by decide)
  have := Nat.mod_lt V hp
  have : (V % 256 ^ i + 5) / 256 ^ i < 6 := (Nat.div_lt_iff_lt_mul hp).2 (by omega)
  omega
theorem uc_val (V i : Nat) : (uc V i).toNat = (V % 256 ^ i + 5) / 256 ^ i := by
  cases i with
  | zero => simp [uc, Nat.mod_one]
  | succ i => rw [uc, UInt32.toNat_ofNat']; exact Nat.mod_eq_of_lt (Nat.lt_of_le_of_lt (uc_bd V (i + 1)) (by decide))
theorem uc_step (V i : Nat) : ((V % 256 ^ i + 5) / 256 ^ i + V / 256 ^ i % 256) % 256 = (V + 5) / 256 ^ i % 256 ∧ ((V % 256 ^ i + 5) / 256 ^ i + V / 256 ^ i % 256) / 256 = (V % 256 ^ (i + 1) + 5) / 256 ^ (i + 1) := by
  have hp : 0 < 256 ^ i := Nat.pow_pos (by decide)
  have hA := Nat.div_add_mod V (256 ^ i)
  have e1 : (V + 5) / 256 ^ i = V / 256 ^ i + (V % 256 ^ i + 5) / 256 ^ i := by
    conv => lhs; rw [← hA, show 256 ^ i * (V / 256 ^ i) + V % 256 ^ i + 5 = (V % 256 ^ i + 5) + 256 ^ i * (V / 256 ^ i) by omega]
    rw [Nat.add_mul_div_left _ _ hp]; omega
  refine ⟨by rw [e1]; omega, ?_⟩
  rw [Nat.pow_succ, Nat.mod_mul, ← Nat.div_div_eq_div_mul, show V % 256 ^ i + 256 ^ i * (V / 256 ^ i % 256) + 5 = (V % 256 ^ i + 5) + 256 ^ i * (V / 256 ^ i % 256) by omega, Nat.add_mul_div_left _ _ hp]
def gl (V : Nat) : Nat → List UInt32
  | 0 => List.replicate 17 0
  | i + 1 => (gl V i).set i (UInt32.ofNat ((V + 5) / 256 ^ i % 256))
theorem gl_len (V i : Nat) : (gl V i).length = 17 := by
  induction i with
  | zero => simp [gl]
  | succ i ih => simp [gl, ih]
theorem gl_get (V : Nat) : ∀ {n i : Nat}, n ≤ 17 → i < n → ((gl V n).getD i 0).toNat = (V + 5) / 256 ^ i % 256 := by
  intro n
  induction n with
  | zero => intro i _ h; omega
  | succ n ih =>
    intro i hn hi
    have hl := gl_len V n
    rw [gl]
    by_cases e : i = n
    · subst e
      rw [List.getD_eq_getElem?_getD, List.getElem?_set_self (by omega)]
      simp only [Option.getD_some]
      rw [UInt32.toNat_ofNat']; omega
    · rw [List.getD_eq_getElem?_getD, List.getElem?_set_ne (fun h => e h.symm), ← List.getD_eq_getElem?_getD]
      exact ih (by omega) (by omega)
/-- The digits and 5. -/
theorem rg_ok (N : Nat) (hN : 4611686018427387904 ≤ N) (key : List UInt8) {h : List UInt32} (hc : Can h) : ref11_Sum_11 N key 5 0 h (List.replicate 17 0) = ref11_Sum_13 N key h (gl (le (dn h)) 17) := by
  have dig := dn_dig hc.1
  generalize le (dn h) = V at *
  have h17N : 17 < N := by omega
  unfold ref11_Sum_11
  refine (loopK_run (fun i : Nat => ((key, uc V i, (i : Int), ()), (h, gl V i, ()))) (n := 17) ?_ (e := ((key, ()), (h, gl V 17, ()))) ?_ h17N).trans ?_
  · intro i hi
    have q1 := uc_val V i
    have q2 := uc_bd V i
    have q3 := uc_step V i
    have hs : (uc V i + h.getD i 0).toNat = (V % 256 ^ i + 5) / 256 ^ i + V / 256 ^ i % 256 := by rw [add32 (by rw [q1, ← dig i]; omega), q1, ← dig i]
    have e1 : shr32 (uc V i + h.getD i 0) 8 = uc V (i + 1) := by
      apply UInt32.toNat_inj.1
      rw [shr32_8, hs, uc_val]; exact q3.2
    have e2 : (uc V i + h.getD i 0) &&& 255 = UInt32.ofNat ((V + 5) / 256 ^ i % 256) := by
      apply UInt32.toNat_inj.1
      rw [and255, hs, q3.1, UInt32.toNat_ofNat']; omega
    show ref11_Sum_s12 N key _ _ h _ = _
    unfold ref11_Sum_s12
    simp (disch := omega) only [dpos, dneg, w64_of, inR_of, room_of, tmod_of, cond_true, cond_false, Bool.and_self, Bool.and_true, Bool.true_and, Bool.and_false, Bool.false_and, Bool.not_true, Bool.not_false, Option.bind_some, List.length_cons, List.length_nil, Nat.zero_add, Int.toNat_natCast, e1, e2, gl, Int.natCast_add, Int.natCast_one]
  · show ref11_Sum_s12 N key _ _ h _ = _
    unfold ref11_Sum_s12
    simp (disch := omega) only [dpos, dneg, w64_of, inR_of, room_of, tmod_of, cond_true, cond_false, Bool.and_self, Bool.and_true, Bool.true_and, Bool.and_false, Bool.false_and, Bool.not_true, Bool.not_false, Option.bind_some, List.length_cons, List.length_nil, Nat.zero_add]
  · dsimp only
/-- The bytes that go out. -/
theorem rout_ok (N : Nat) (hN : 4611686018427387904 ≤ N) {key : List UInt8} (hk : key.length = 32) {h : List UInt32} (V : Nat) (dig : ∀ i, i < 16 → (h.getD i 0).toNat = V / 256 ^ i % 256) : ref11_Sum_14 N key h = some ((true, ()), (tagB (V + ks key), ())) := by
  unfold ref11_Sum_14 ref11_Sum_15
  have h16N : 16 < N := by omega
  have hcb : ∀ i, cc V (ks key) i ≤ 1 := fun i => by rw [cc_eq]; exact carry_bd V (ks key) i
  have hcv : ∀ i, (UInt32.ofNat (cc V (ks key) i)).toNat = cc V (ks key) i := fun i => by rw [UInt32.toNat_ofNat']; have := hcb i; omega
  have hl := tagB_len (V + ks key)
  refine (loopK_run (fun i : Nat => ((key, UInt32.ofNat (cc V (ks key) i), (i : Int), ()), (h, (tagB (V + ks key)).take i, ()))) (n := 16) ?_ (e := ((), (tagB (V + ks key), ()))) ?_ h16N).trans rfl
  · intro i hi
    have q1 := tagB_get (V + ks key) hi
    have q3 : (key.getD ((16 : Int) + (i : Int)).toNat 0).toNat = ks key / 256 ^ i % 256 := by
      unfold ks
      rw [le_dig, show ((16 : Int) + (i : Int)).toNat = 16 + i by omega]
      simp [List.getD]
    have q4 := carry_step V (ks key) i
    rw [← cc_eq] at q4
    have q5 := hcb i
    have hu : ((key.getD ((16 : Int) + (i : Int)).toNat 0).toUInt32).toNat = ks key / 256 ^ i % 256 := by rw [UInt8.toNat_toUInt32, q3]
    have hd := dig i hi
    have h1 : (h.getD i 0 + (key.getD ((16 : Int) + (i : Int)).toNat 0).toUInt32).toNat = V / 256 ^ i % 256 + ks key / 256 ^ i % 256 := by rw [add32 (by rw [hu, hd]; omega), hu, hd]
    have h2 : (UInt32.ofNat (cc V (ks key) i) + (h.getD i 0 + (key.getD ((16 : Int) + (i : Int)).toNat 0).toUInt32)).toNat = V / 256 ^ i % 256 + ks key / 256 ^ i % 256 + cc V (ks key) i := by rw [add32 (by rw [h1, hcv]; omega), h1, hcv]; omega
    have e1 : shr32 (UInt32.ofNat (cc V (ks key) i) + (h.getD i 0 + (key.getD ((16 : Int) + (i : Int)).toNat 0).toUInt32)) 8 = UInt32.ofNat (cc V (ks key) (i + 1)) := by
      apply UInt32.toNat_inj.1
      rw [shr32_8, h2, hcv, q4.2]
      rfl
    have e2 : (UInt32.ofNat (cc V (ks key) i) + (h.getD i 0 + (key.getD ((16 : Int) + (i : Int)).toNat 0).toUInt32)).toUInt8 = (tagB (V + ks key)).getD i 0 := by
      apply UInt8.toNat_inj.1
      rw [UInt32.toNat_toUInt8, h2, q1]; exact q4.1
    have hti : ((tagB (V + ks key)).take i).length = i := by simp; omega
    show ref11_Sum_s16 N key _ _ h _ = _
    unfold ref11_Sum_s16
    simp (disch := omega) only [dpos, dneg, w64_of, inR_of, room_of, tmod_of, cond_true, cond_false, Bool.and_self, Bool.and_true, Bool.true_and, Bool.and_false, Bool.false_and, Bool.not_true, Bool.not_false, Option.bind_some, List.length_cons, List.length_nil, Nat.zero_add, Int.toNat_natCast, hti, e1, e2, Int.natCast_add, Int.natCast_one]
    rw [take_snoc _ 0 (by omega)]
  · show ref11_Sum_s16 N key _ _ h _ = _
    unfold ref11_Sum_s16
    simp (disch := omega) only [dpos, dneg, w64_of, inR_of, room_of, tmod_of, cond_true, cond_false, Bool.and_self, Bool.and_true, Bool.true_and, Bool.and_false, Bool.false_and, Bool.not_true, Bool.not_false, Option.bind_some, List.length_cons, List.length_nil, Nat.zero_add]
    rw [List.take_of_length_le (by omega)]
theorem tagB_mod {v w : Nat} (h : v % 340282366920938463463374607431768211456 = w % 340282366920938463463374607431768211456) : tagB v = tagB w := by
  unfold tagB
  apply List.map_congr_left
  intro k hk
  rw [List.mem_range] at hk
  congr 1
  have e : ∀ x : Nat, x / 256 ^ k % 256 = x % 340282366920938463463374607431768211456 / 256 ^ k % 256 := by
    intro x
    have hd : (340282366920938463463374607431768211456 : Nat) = 256 ^ k * (256 * 256 ^ (15 - k)) := by
      rw [← Nat.pow_succ', ← Nat.pow_add, show k + (15 - k + 1) = 16 by omega]
    rw [hd, Nat.mod_mul_right_div_self, Nat.mod_mul_right_mod]
  rw [e v, e w, h]
theorem rfinal (N : Nat) (hN : 4611686018427387904 ≤ N) {key : List UInt8} (hk : key.length = 32) {h : List UInt32} (hl : h.length = 17) (hc : Can h) : ref11_Sum_10 N key h = some ((true, ()), (tagB (le (dn h) % pp + ks key), ())) := by
  unfold ref11_Sum_10
  obtain ⟨h', c1, c2, c3, c4, c5⟩ := rcarry_ok N hN hl (fun x hx => Nat.le_trans (hc.1 x hx) (by decide))
  rw [c1, ← c4]
  simp only [Option.bind_some]
  rw [rg_ok N hN key c3]
  unfold ref11_Sum_13
  have dig := dn_dig c3.1
  have g16 := gl_get (le (dn h')) (Nat.le_refl 17) (show 16 < 17 by omega)
  have gd : ∀ i, i < 16 → ((gl (le (dn h')) 17).getD i 0).toNat = (le (dn h') + 5) / 256 ^ i % 256 := fun i hi => gl_get _ (Nat.le_refl 17) (by omega)
  generalize le (dn h') = V at *
  generalize gl V 17 = G at *
  have e16 : (256 : Nat) ^ 16 = 340282366920938463463374607431768211456 := by decide
  rw [e16] at g16
  have hiff : (4 : UInt32) ≤ G.getD 16 0 ↔ b130 ≤ V + 5 := by
    rw [UInt32.le_iff_toNat_le, g16]
    show 4 ≤ _ ↔ _
    unfold b130 at *
    omega
  by_cases hq : (4 : UInt32) ≤ G.getD 16 0
  · have ht : tagB (V + 5 + ks key) = tagB (V % pp + ks key) := by
      apply tagB_mod
      have := hiff.1 hq
      unfold b130 pp at *
      omega
    rw [dpos hq, cond_true, rout_ok N hN hk (V + 5) gd, ht]
  · have ht : V % pp = V := by
      have : ¬ b130 ≤ V + 5 := fun e => hq (hiff.2 e)
      apply Nat.mod_eq_of_lt
      unfold b130 pp at *; omega
    rw [dneg hq, cond_false, rout_ok N hN hk V (fun i _ => (dig i).symm), ht]
theorem rsum_ok (N : Nat) (hN : 4611686018427387904 ≤ N) {key b : List UInt8} (hk : key.length = 32) (hb : b.length ≤ 9223372036854775000) (hbN : b.length < N) : ref11_Sum N key b = some ((true, ()), (tag key b, ())) := by
  unfold ref11_Sum
  obtain ⟨r, er, lr, cr, vr⟩ := rclamp_ok N hN hk
  simp (disch := omega) only [dpos, dneg, w64_of, inR_of, room_of, tmod_of, cond_true, cond_false, Bool.and_self, Bool.and_true, Bool.true_and, Bool.and_false, Bool.false_and, Bool.not_true, Bool.not_false, Option.bind_some, List.length_cons, List.length_nil, Nat.zero_add, er]
  unfold ref11_Sum_1
  have := loopK_of (N := N) (step := fun y => ref11_Sum_s2 N y.1.1 y.1.2.1 y.1.2.2.1 y.2.1 y.2.2.1) (J := fun (e : (((List UInt8) × Unit) × ((List UInt32) × Unit))) => ref11_Sum_10 N e.1.1 e.2.1)
    (I := fun y => ∃ a : Nat, y = ((key, b, (a : Int), ()), (r, y.2.2.1, ())) ∧ a ≤ b.length + 16 ∧ y.2.2.1.length = 17 ∧ Can y.2.2.1 ∧ acc (kr key) (le (dn y.2.2.1) % pp) (b.drop a) = acc (kr key) 0 b)
    (μ := fun y => ((b.length : Int) - y.1.2.2.1).toNat)
    (T := fun x => x = ((true, ()), (tag key b, ()))) ?_
    (x := ((key, b, 0, ()), (r, List.replicate 17 0, ()))) ⟨0, rfl, by omega, by simp, ⟨fun x hx => by simp at hx; subst hx; decide, fun x hx => by simp at hx; subst hx; decide⟩, by
      have e : le (dn (List.replicate 17 0)) = 0 := by decide
      rw [e, Nat.zero_mod, List.drop_zero]⟩ (by simp only; omega)
  · obtain ⟨x, h1, rfl⟩ := this
    exact h1
  · rintro ⟨⟨key', b', a', _⟩, ⟨r', h, _⟩⟩ ⟨a, e1, ha, hl, hc, hv⟩
    simp only [Prod.mk.injEq] at e1
    obtain ⟨⟨rfl, rfl, rfl, _⟩, rfl, _⟩ := e1
    simp only at hl hc hv ⊢
    show ∃ o, ref11_Sum_s2 N key' b' (a : Int) r' h = some o ∧ _
    unfold ref11_Sum_s2
    by_cases hlt : a < b'.length
    · simp (disch := omega) only [dpos, dneg, w64_of, inR_of, room_of, tmod_of, cond_true, cond_false, Bool.and_self, Bool.and_true, Bool.true_and, Bool.and_false, Bool.false_and, Bool.not_true, Bool.not_false, Option.bind_some, List.length_cons, List.length_nil, Nat.zero_add]
      unfold ref11_Sum_3 ref11_Sum_5
      have hx : (bif decide (w64 ((b'.length : Int) - (a : Int)) < 16) then w64 ((b'.length : Int) - (a : Int)) else 16) = ((min 16 (b'.length - a) : Nat) : Int) := by
        rw [w64_of (by omega) (by omega)]
        by_cases h : (b'.length : Int) - (a : Int) < 16
        · rw [dpos h, cond_true]; omega
        · rw [dneg h, cond_false]; omega
      simp only [hx]
      obtain ⟨h', p1, p2, p3, p4, p5⟩ := rpiece N hN (key := key') (b := b') (at_ := a) (n := min 16 (b'.length - a)) hl hc lr cr (by omega) (by omega) hb
      refine ⟨_, p1, ⟨a + 16, by simp only [Int.natCast_add]; rfl, by omega, p2, p3, ?_⟩, by simp only; omega⟩
      simp only
      have hne : b'.drop a ≠ [] := by intro e; have := congrArg List.length e; simp at this; omega
      rw [← hv, acc_step _ _ hne, List.drop_drop]
      congr 1
      have ht : (b'.drop a).take (min 16 (b'.length - a)) = (b'.drop a).take 16 := by
        by_cases h : 16 ≤ b'.length - a
        · rw [Nat.min_eq_left h]
        · rw [Nat.min_eq_right (by omega), List.take_of_length_le (by simp), List.take_of_length_le (by simp; omega)]
      have hn : ns ((b'.drop a).take 16 ++ [1]) = ((b'.drop a).take 16).map UInt8.toNat ++ [1] := by simp [ns]
      rw [p4, ht, hn, vr, Nat.mul_mod (le (dn h) % pp + _), Nat.mod_add_mod, ← Nat.mul_mod]
    · simp (disch := omega) only [dpos, dneg, w64_of, inR_of, room_of, tmod_of, cond_true, cond_false, Bool.and_self, Bool.and_true, Bool.true_and, Bool.and_false, Bool.false_and, Bool.not_true, Bool.not_false, Option.bind_some, List.length_cons, List.length_nil, Nat.zero_add]
      refine ⟨_, rfl, _, ?_, rfl⟩
      show ref11_Sum_10 N key' h = _
      rw [rfinal N hN hk hl hc]
      rw [List.drop_of_length_le (by omega), acc_nil] at hv
      unfold tag
      rw [hv]
theorem rsum_no (N : Nat) {key b : List UInt8} (hk : key.length ≠ 32) : ref11_Sum N key b = some ((false, ()), ([], ())) := by
  unfold ref11_Sum
  simp (disch := omega) only [dpos, dneg, w64_of, inR_of, room_of, tmod_of, cond_true, cond_false, Bool.and_self, Bool.and_true, Bool.true_and, Bool.and_false, Bool.false_and, Bool.not_true, Bool.not_false, Option.bind_some, List.length_cons, List.length_nil, Nat.zero_add]
end
end Go.Proofs.YtlamdneheilahaaDoor.Pl
