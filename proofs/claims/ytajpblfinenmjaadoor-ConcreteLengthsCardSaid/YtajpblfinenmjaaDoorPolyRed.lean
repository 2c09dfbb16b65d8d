/- Poly1305: what the rounds of carry are, and the number below the modulus; plain. -/
import Derived.Test.YtajpblfinenmjaaDoorPolyNum
set_option linter.unusedVariables false
set_option linter.unusedSimpArgs false
namespace Go.Proofs.YtajpblfinenmjaaDoor.Poly

/-- k steps of one round of carry, and what is carried. -/
def rp : Nat → List Nat → List Nat × Nat
  | 0, l => (l, 0)
  | k + 1, l => ((rp k l).1.set k (((rp k l).1.getD k 0 + (rp k l).2) % 67108864), ((rp k l).1.getD k 0 + (rp k l).2) / 67108864)
/-- One round of carry. -/
def rnd (l : List Nat) : List Nat := (rp 5 l).1.set 0 ((rp 5 l).1.getD 0 0 + 5 * (rp 5 l).2)
def rndN : Nat → List Nat → List Nat
  | 0, l => l
  | r + 1, l => rnd (rndN r l)
theorem rnd_five (a b c d e : Nat) : rnd [a, b, c, d, e] =
    [(a + 0) % 67108864 + 5 * ((e + (d + (c + (b + (a + 0) / 67108864) / 67108864) / 67108864) / 67108864) / 67108864),
     (b + (a + 0) / 67108864) % 67108864,
     (c + (b + (a + 0) / 67108864) / 67108864) % 67108864,
     (d + (c + (b + (a + 0) / 67108864) / 67108864) / 67108864) % 67108864,
     (e + (d + (c + (b + (a + 0) / 67108864) / 67108864) / 67108864) / 67108864) % 67108864] := rfl
theorem le5 {a b c d e B : Nat} (h0 : a ≤ B) (h1 : b ≤ B) (h2 : c ≤ B) (h3 : d ≤ B) (h4 : e ≤ B) : Le B [a, b, c, d, e] := ⟨rfl, fun j hj => by
  rcases (by omega : j = 0 ∨ j = 1 ∨ j = 2 ∨ j = 3 ∨ j = 4) with rfl | rfl | rfl | rfl | rfl <;> assumption⟩
theorem rnd_low {l : List Nat} (h : Bd 2 l) : Le 67108863 (rnd l) := by
  have h0 := h.two (Nat.le_refl _)
  have h1 := h.high (by omega) 1 (by omega) (by omega)
  have h2 := h.high (by omega) 2 (by omega) (by omega)
  have h3 := h.high (by omega) 3 (by omega) (by omega)
  have h4 := h.high (by omega) 4 (by omega) (by omega)
  obtain ⟨a, b, c, d, e, rfl⟩ := list5 h.len
  simp only [List.getD_cons_zero, List.getD_cons_succ] at h0 h1 h2 h3 h4
  rw [rnd_five]
  apply le5 <;> omega
theorem rnd_id {l : List Nat} (h : Le 67108863 l) : rnd l = l := by
  have h0 := h.2 0 (by omega); have h1 := h.2 1 (by omega); have h2 := h.2 2 (by omega); have h3 := h.2 3 (by omega); have h4 := h.2 4 (by omega)
  obtain ⟨a, b, c, d, e, rfl⟩ := list5 h.1
  simp only [List.getD_cons_zero, List.getD_cons_succ] at h0 h1 h2 h3 h4
  rw [rnd_five]
  rw [show (a + 0) / 67108864 = 0 by omega, show (b + 0) / 67108864 = 0 by omega, show (c + 0) / 67108864 = 0 by omega, show (d + 0) / 67108864 = 0 by omega, show (e + 0) / 67108864 = 0 by omega]
  simp only [Nat.add_zero, Nat.mul_zero]
  rw [Nat.mod_eq_of_lt (by omega), Nat.mod_eq_of_lt (by omega), Nat.mod_eq_of_lt (by omega), Nat.mod_eq_of_lt (by omega), Nat.mod_eq_of_lt (by omega)]
theorem rnd2_low {l : List Nat} (h : Bd 2 l) : Le 67108863 (rnd (rnd l)) := by rw [rnd_id (rnd_low h)]; exact rnd_low h

/-- k steps of the carry that stops at the last limb. -/
def rq : Nat → List Nat → List Nat
  | 0, l => l
  | k + 1, l => (((rq k l).set (k + 1) ((rq k l).getD (k + 1) 0 + (rq k l).getD k 0 / 67108864))).set k ((rq k l).getD k 0 % 67108864)
theorem rq_len (k : Nat) (l : List Nat) : (rq k l).length = l.length := by
  induction k with
  | zero => rfl
  | succ k ih => simp [rq, ih]
theorem rq_le {l : List Nat} (h : Le 1073741824 l) {k : Nat} (hk : k ≤ 4) : Le 2147483648 (rq k l) := by
  induction k with
  | zero => exact h.mono (by decide)
  | succ k ih =>
    refine ⟨by rw [rq_len]; exact h.1, fun j hj => ?_⟩
    have hl : (rq k l).length = 5 := by rw [rq_len]; exact h.1
    have hi := ih (by omega)
    have up : ∀ k : Nat, k ≤ 4 → ∀ j, k < j → (rq k l).getD j 0 = l.getD j 0 := by
      intro k
      induction k with
      | zero => intros; rfl
      | succ k ihk =>
        intro hk j hj
        rw [rq, getD_set_ne (by omega), getD_set_ne (by omega)]
        exact ihk (by omega) j (by omega)
    rw [rq]
    by_cases e1 : k = j
    · subst e1
      rw [getD_set_self (by rw [List.length_set]; omega)]
      omega
    · rw [getD_set_ne e1]
      by_cases e2 : k + 1 = j
      · subst e2
        rw [getD_set_self (by omega), up k (by omega) _ (by omega)]
        have := h.2 (k + 1) (by omega)
        have := hi.2 k (by omega)
        omega
      · rw [getD_set_ne e2]
        exact hi.2 j hj
theorem rq_four (a b c d e : Nat) : rq 4 [a, b, c, d, e] =
    [a % 67108864, (b + a / 67108864) % 67108864, (c + (b + a / 67108864) / 67108864) % 67108864, (d + (c + (b + a / 67108864) / 67108864) / 67108864) % 67108864,
     e + (d + (c + (b + a / 67108864) / 67108864) / 67108864) / 67108864] := rfl
/-- The value stays, and the limbs below the last one are low. -/
theorem rq_done {l : List Nat} (h : l.length = 5) : v5 (rq 4 l) = v5 l ∧ ∀ i, i < 4 → (rq 4 l).getD i 0 ≤ 67108863 := by
  obtain ⟨a, b, c, d, e, rfl⟩ := list5 h
  rw [rq_four]
  constructor
  · simp only [v5, List.getD_cons_zero, List.getD_cons_succ]
    omega
  · intro i hi
    rcases (by omega : i = 0 ∨ i = 1 ∨ i = 2 ∨ i = 3) with rfl | rfl | rfl | rfl <;> simp only [List.getD_cons_zero, List.getD_cons_succ] <;> omega
theorem v5_top {l : List Nat} (h : Le 67108863 l) : v5 l < 1361129467683753853853498429727072845824 := by
  have h0 := h.2 0 (by omega); have h1 := h.2 1 (by omega); have h2 := h.2 2 (by omega); have h3 := h.2 3 (by omega); have h4 := h.2 4 (by omega)
  obtain ⟨a, b, c, d, e, rfl⟩ := list5 h.1
  simp only [List.getD_cons_zero, List.getD_cons_succ] at h0 h1 h2 h3 h4
  simp only [v5, List.getD_cons_zero, List.getD_cons_succ]
  omega
/-- A number and 5, carried: whether it reaches 2^130, and what it is without that. -/
theorem red_val {l : List Nat} (h : Le 67108863 l) : v5 (rq 4 (l.set 0 (l.getD 0 0 + 5))) = v5 l + 5 := by
  rw [(rq_done (by rw [List.length_set]; exact h.1)).1]
  obtain ⟨a, b, c, d, e, rfl⟩ := list5 h.1
  rw [show [a, b, c, d, e].set 0 ([a, b, c, d, e].getD 0 0 + 5) = [a + 5, b, c, d, e] from rfl]
  simp only [v5, List.getD_cons_zero, List.getD_cons_succ]
  omega
theorem red_no {l : List Nat} (h : Le 67108863 l) (e : (rq 4 (l.set 0 (l.getD 0 0 + 5))).getD 4 0 / 67108864 = 0) : v5 l % pp = v5 l := by
  have hv := red_val h
  have hlow := (rq_done (l := l.set 0 (l.getD 0 0 + 5)) (by rw [List.length_set]; exact h.1)).2
  have hl : (rq 4 (l.set 0 (l.getD 0 0 + 5))).length = 5 := by rw [rq_len, List.length_set]; exact h.1
  generalize rq 4 (l.set 0 (l.getD 0 0 + 5)) = q at *
  have ht : v5 q < 1361129467683753853853498429727072845824 := v5_top ⟨hl, fun i hi => by
    by_cases i4 : i < 4
    · exact hlow i i4
    · obtain rfl : i = 4 := by omega
      omega⟩
  apply Nat.mod_eq_of_lt
  unfold pp
  omega
theorem red_yes {l : List Nat} (h : Le 67108863 l) (e : ¬ (rq 4 (l.set 0 (l.getD 0 0 + 5))).getD 4 0 / 67108864 = 0) :
    Le 67108863 ((rq 4 (l.set 0 (l.getD 0 0 + 5))).set 4 ((rq 4 (l.set 0 (l.getD 0 0 + 5))).getD 4 0 % 67108864)) ∧
    v5 l % pp = v5 ((rq 4 (l.set 0 (l.getD 0 0 + 5))).set 4 ((rq 4 (l.set 0 (l.getD 0 0 + 5))).getD 4 0 % 67108864)) := by
  have hv := red_val h
  have ht := v5_top h
  have hlow := (rq_done (l := l.set 0 (l.getD 0 0 + 5)) (by rw [List.length_set]; exact h.1)).2
  have hl : (rq 4 (l.set 0 (l.getD 0 0 + 5))).length = 5 := by rw [rq_len, List.length_set]; exact h.1
  generalize rq 4 (l.set 0 (l.getD 0 0 + 5)) = q at *
  have h0 := hlow 0 (by omega); have h1 := hlow 1 (by omega); have h2 := hlow 2 (by omega); have h3 := hlow 3 (by omega)
  obtain ⟨a, b, c, d, f, rfl⟩ := list5 hl
  simp only [List.getD_cons_zero, List.getD_cons_succ] at h0 h1 h2 h3 e
  rw [show [a, b, c, d, f].set 4 ([a, b, c, d, f].getD 4 0 % 67108864) = [a, b, c, d, f % 67108864] from rfl]
  constructor
  · apply le5 <;> omega
  · have hv2 : v5 [a, b, c, d, f % 67108864] + 1361129467683753853853498429727072845824 = v5 l + 5 := by
      rw [← hv]
      generalize v5 l = z at *
      simp only [v5, List.getD_cons_zero, List.getD_cons_succ] at hv ⊢
      omega
    generalize v5 [a, b, c, d, f % 67108864] = y at *
    generalize v5 l = z at *
    unfold pp
    omega
end Go.Proofs.YtajpblfinenmjaaDoor.Poly
