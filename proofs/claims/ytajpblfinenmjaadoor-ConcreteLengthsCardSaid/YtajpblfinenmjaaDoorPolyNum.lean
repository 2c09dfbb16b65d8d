/- Plain arithmetic of the limbs of Poly1305: lists of five numbers with 26 bits each. No program is in sight. -/
import Init
set_option linter.unusedVariables false
set_option linter.unusedSimpArgs false
namespace Go.Proofs.YtajpblfinenmjaaDoor.Poly

/-- The number of five limbs. -/
def v5 (l : List Nat) : Nat := l.getD 0 0 + l.getD 1 0 * 67108864 + l.getD 2 0 * 4503599627370496 + l.getD 3 0 * 302231454903657293676544 + l.getD 4 0 * 20282409603651670423947251286016
/-- The place value of limb j. -/
def pl : Nat → Nat
  | 0 => 1
  | 1 => 67108864
  | 2 => 4503599627370496
  | 3 => 302231454903657293676544
  | 4 => 20282409603651670423947251286016
  | _ => 1361129467683753853853498429727072845824
/-- The modulus. -/
def pp : Nat := 1361129467683753853853498429727072845819

theorem list5 {l : List Nat} (h : l.length = 5) : ∃ a b c d e, l = [a, b, c, d, e] := by
  match l, h with
  | [a, b, c, d, e], _ => exact ⟨a, b, c, d, e, rfl⟩

/-- The bounds ahead of round r of carry, and behind both. -/
structure Bd (r : Nat) (l : List Nat) : Prop where
  len : l.length = 5
  all : ∀ i, i < 5 → l.getD i 0 ≤ 4611686018427387904
  one : r = 1 → l.getD 0 0 ≤ 2199023255552
  two : 2 ≤ r → l.getD 0 0 ≤ 67108868
  high : 1 ≤ r → ∀ i, 1 ≤ i → i < 5 → l.getD i 0 ≤ 67108863

/-- Within a round of carry, ahead of limb j, c being carried. -/
structure CInv (r : Nat) (l0 l : List Nat) (j c : Nat) : Prop where
  len : l.length = 5
  sum : v5 l + c * pl j = v5 l0
  low : ∀ i, i < j → l.getD i 0 ≤ 67108863
  up : ∀ i, j ≤ i → i < 5 → l.getD i 0 = l0.getD i 0
  big : c ≤ 137438953472
  r1 : r = 1 → (j = 0 → c = 0) ∧ (j = 1 → c ≤ 65536) ∧ (2 ≤ j → c ≤ 1)

theorem CInv.start {r : Nat} {l : List Nat} (h : Bd r l) : CInv r l l 0 0 where
  len := h.len
  sum := by rw [Nat.zero_mul, Nat.add_zero]
  low := fun i hi => absurd hi (Nat.not_lt_zero i)
  up := fun i _ _ => rfl
  big := Nat.zero_le _
  r1 := fun _ => ⟨fun _ => rfl, fun _ => Nat.zero_le _, fun _ => Nat.zero_le _⟩

theorem CInv.step {r : Nat} {l0 l : List Nat} {j c : Nat} (hb : Bd r l0) (h : CInv r l0 l j c) (hj : j < 5) :
    CInv r l0 (l.set j ((l.getD j 0 + c) % 67108864)) (j + 1) ((l.getD j 0 + c) / 67108864) ∧ l.getD j 0 + c ≤ 18446744073709551615 := by
  have hx := h.up j (Nat.le_refl _) hj
  have hbj := hb.all j hj
  have hc := h.big
  have hxx : l.getD j 0 ≤ 4611686018427387904 := by rw [hx]; exact hbj
  refine ⟨⟨by simp [h.len], ?_, ?_, ?_, ?_, ?_⟩, by omega⟩
  · have hs := h.sum
    obtain ⟨a0, a1, a2, a3, a4, rfl⟩ := list5 h.len
    rw [← hs]
    rcases (by omega : j = 0 ∨ j = 1 ∨ j = 2 ∨ j = 3 ∨ j = 4) with rfl | rfl | rfl | rfl | rfl
    all_goals
      simp only [List.getD_cons_zero, List.getD_cons_succ, v5, List.set_cons_zero, List.set_cons_succ, pl]
      omega
  · intro i hi
    by_cases hij : i = j
    · subst hij
      rw [List.getD_eq_getElem?_getD, List.getElem?_set_self (by rw [h.len]; exact hj)]
      simp only [Option.getD_some]
      omega
    · rw [List.getD_eq_getElem?_getD, List.getElem?_set_ne (fun e => hij e.symm), ← List.getD_eq_getElem?_getD]
      exact h.low i (by omega)
  · intro i hi hi5
    rw [List.getD_eq_getElem?_getD, List.getElem?_set_ne (by omega), ← List.getD_eq_getElem?_getD]
    exact h.up i (by omega) hi5
  · omega
  · intro hr
    have h1 := h.r1 hr
    have h0 := hb.one hr
    have hh := hb.high (by omega)
    refine ⟨fun e => absurd e (by omega), fun e => ?_, fun e => ?_⟩
    · obtain rfl : j = 0 := by omega
      have := h1.1 rfl
      rw [← hx] at h0
      omega
    · have := hh j (by omega) hj
      rw [← hx] at this
      by_cases h2 : 2 ≤ j
      · have := h1.2.2 h2; omega
      · have := h1.2.1 (by omega); omega

/-- What a round of carry leaves. -/
theorem CInv.done {r : Nat} {l0 l : List Nat} {c : Nat} (h : CInv r l0 l 5 c) (hr : r < 2) :
    Bd (r + 1) (l.set 0 (l.getD 0 0 + 5 * c)) ∧ v5 (l.set 0 (l.getD 0 0 + 5 * c)) % pp = v5 l0 % pp ∧ l.getD 0 0 + 5 * c ≤ 18446744073709551615 ∧ 5 * c ≤ 18446744073709551615 := by
  have hs := h.sum
  have hc := h.big
  have l0' := h.low 0 (by omega)
  have l1 := h.low 1 (by omega)
  have l2 := h.low 2 (by omega)
  have l3 := h.low 3 (by omega)
  have l4 := h.low 4 (by omega)
  have hr1 := h.r1
  obtain ⟨a0, a1, a2, a3, a4, rfl⟩ := list5 h.len
  simp only [List.getD_cons_zero, List.getD_cons_succ] at l0' l1 l2 l3 l4
  simp only [List.getD_cons_zero, List.set_cons_zero]
  refine ⟨⟨rfl, ?_, ?_, ?_, ?_⟩, ?_, by omega, by omega⟩
  · intro i hi
    rcases (by omega : i = 0 ∨ i = 1 ∨ i = 2 ∨ i = 3 ∨ i = 4) with rfl | rfl | rfl | rfl | rfl
    all_goals
      simp only [List.getD_cons_zero, List.getD_cons_succ]
      omega
  · intro _
    simp only [List.getD_cons_zero]
    omega
  · intro h2
    have := (hr1 (by omega)).2.2 (by omega)
    simp only [List.getD_cons_zero]
    omega
  · intro _ i hi hi5
    rcases (by omega : i = 1 ∨ i = 2 ∨ i = 3 ∨ i = 4) with rfl | rfl | rfl | rfl
    all_goals
      simp only [List.getD_cons_zero, List.getD_cons_succ]
      omega
  · rw [← hs]
    simp only [v5, List.getD_cons_zero, List.getD_cons_succ, pl, pp]
    omega

/-- Five numbers, none above B. -/
def Le (B : Nat) (l : List Nat) : Prop := l.length = 5 ∧ ∀ i, i < 5 → l.getD i 0 ≤ B
theorem Le.bd {l : List Nat} (h : Le 4611686018427387904 l) : Bd 0 l := ⟨h.1, h.2, fun e => absurd e (by omega), fun e => absurd e (by omega), fun e => absurd e (by omega)⟩
theorem Bd.le {l : List Nat} (h : Bd 2 l) : Le 67108868 l := ⟨h.len, fun i hi => by
  rcases Nat.eq_zero_or_pos i with rfl | h1
  · exact h.two (Nat.le_refl _)
  · exact Nat.le_trans (h.high (by omega) i h1 hi) (by omega)⟩
theorem Le.mono {B C : Nat} {l : List Nat} (h : Le B l) (k : B ≤ C) : Le C l := ⟨h.1, fun i hi => Nat.le_trans (h.2 i hi) k⟩

/-- Ahead of limb k of an addition. -/
structure AInv (a b l : List Nat) (k : Nat) : Prop where
  len : l.length = 5
  low : ∀ i, i < k → l.getD i 0 = a.getD i 0 + b.getD i 0
  up : ∀ i, k ≤ i → i < 5 → l.getD i 0 = a.getD i 0
theorem getD_set_self {l : List Nat} {k x : Nat} (h : k < l.length) : (l.set k x).getD k 0 = x := by
  rw [List.getD_eq_getElem?_getD, List.getElem?_set_self h]; rfl
theorem getD_set_ne {l : List Nat} {k i x : Nat} (h : k ≠ i) : (l.set k x).getD i 0 = l.getD i 0 := by
  rw [List.getD_eq_getElem?_getD, List.getElem?_set_ne h, ← List.getD_eq_getElem?_getD]
theorem AInv.step {a b l : List Nat} {k : Nat} (h : AInv a b l k) (hk : k < 5) : AInv a b (l.set k (l.getD k 0 + b.getD k 0)) (k + 1) where
  len := by simp [h.len]
  low := fun i hi => by
    by_cases e : k = i
    · subst e; rw [getD_set_self (by rw [h.len]; exact hk), h.up k (Nat.le_refl _) hk]
    · rw [getD_set_ne e]; exact h.low i (by omega)
  up := fun i hi h5 => by rw [getD_set_ne (by omega)]; exact h.up i (by omega) h5
theorem AInv.done {a b l : List Nat} (h : AInv a b l 5) {B : Nat} (ha : Le B a) (hb : Le B b) : Le (2 * B) l ∧ v5 l = v5 a + v5 b := by
  refine ⟨⟨h.len, fun i hi => ?_⟩, ?_⟩
  · have := ha.2 i hi; have := hb.2 i hi; rw [h.low i hi]; omega
  · unfold v5
    rw [h.low 0 (by omega), h.low 1 (by omega), h.low 2 (by omega), h.low 3 (by omega), h.low 4 (by omega)]
    omega

/-- The number of the first k limbs. -/
def pv (l : List Nat) : Nat → Nat
  | 0 => 0
  | k + 1 => pv l k + l.getD k 0 * pl k
theorem pv_five (l : List Nat) : pv l 5 = v5 l := by simp [pv, pl, v5]
theorem v5_set {l : List Nat} (h : l.length = 5) {j : Nat} (hj : j < 5) (x : Nat) : v5 (l.set j (l.getD j 0 + x)) = v5 l + x * pl j := by
  obtain ⟨a, b, c, d, e, rfl⟩ := list5 h
  rcases (by omega : j = 0 ∨ j = 1 ∨ j = 2 ∨ j = 3 ∨ j = 4) with rfl | rfl | rfl | rfl | rfl
  all_goals
    simp only [List.getD_cons_zero, List.getD_cons_succ, v5, List.set_cons_zero, List.set_cons_succ, pl]
    omega
theorem pl_mul (i k : Nat) (hi : i < 5) (hk : k < 5) : (if 5 ≤ i + k then 5 else 1) * pl ((i + k) % 5) % pp = pl i * pl k % pp := by
  rcases (by omega : i = 0 ∨ i = 1 ∨ i = 2 ∨ i = 3 ∨ i = 4) with rfl | rfl | rfl | rfl | rfl <;>
  rcases (by omega : k = 0 ∨ k = 1 ∨ k = 2 ∨ k = 3 ∨ k = 4) with rfl | rfl | rfl | rfl | rfl <;> decide

/-- Within the product of a and b, ahead of the limbs i and k. -/
structure MInv (a b l : List Nat) (i k : Nat) : Prop where
  le : Le ((5 * i + k) * 22518000821207120) l
  val : v5 l % pp = (pv a i * v5 b + a.getD i 0 * pl i * pv b k) % pp
/-- What is added for the limbs i and k. -/
def mterm (a b : List Nat) (i k : Nat) : Nat := a.getD i 0 * b.getD k 0 * (if 5 ≤ i + k then 5 else 1)
theorem mul_bd {a b : List Nat} (ha : Le 67108868 a) (hb : Le 67108868 b) {i k : Nat} (hi : i < 5) (hk : k < 5) : a.getD i 0 * b.getD k 0 ≤ 4503600164241424 := Nat.mul_le_mul (ha.2 i hi) (hb.2 k hk)
theorem MInv.start (a b : List Nat) : MInv a b [0, 0, 0, 0, 0] 0 0 := ⟨⟨rfl, fun i hi => by
  rcases (by omega : i = 0 ∨ i = 1 ∨ i = 2 ∨ i = 3 ∨ i = 4) with rfl | rfl | rfl | rfl | rfl <;> simp⟩, by simp [v5, pv]⟩
theorem MInv.step {a b l : List Nat} {i k : Nat} (ha : Le 67108868 a) (hb : Le 67108868 b) (h : MInv a b l i k) (hi : i < 5) (hk : k < 5) :
    MInv a b (l.set ((i + k) % 5) (l.getD ((i + k) % 5) 0 + mterm a b i k)) i (k + 1) ∧ l.getD ((i + k) % 5) 0 + mterm a b i k ≤ 18446744073709551615 := by
  have hm := mul_bd ha hb hi hk
  have ht : mterm a b i k ≤ 22518000821207120 := by
    unfold mterm
    split <;> omega
  have hj : (i + k) % 5 < 5 := Nat.mod_lt _ (by decide)
  have hle := h.le.2 _ hj
  refine ⟨⟨⟨by simp [h.le.1], fun q hq => ?_⟩, ?_⟩, ?_⟩
  · by_cases e : (i + k) % 5 = q
    · subst e
      rw [getD_set_self (by rw [h.le.1]; exact hj)]
      rw [show (5 * i + (k + 1)) * 22518000821207120 = (5 * i + k) * 22518000821207120 + 22518000821207120 by omega]
      omega
    · rw [getD_set_ne e]
      exact Nat.le_trans (h.le.2 q hq) (Nat.mul_le_mul_right _ (by omega))
  · rw [v5_set h.le.1 hj]
    have e1 : mterm a b i k * pl ((i + k) % 5) % pp = a.getD i 0 * pl i * (b.getD k 0 * pl k) % pp := by
      unfold mterm
      rw [Nat.mul_assoc, Nat.mul_mod, pl_mul i k hi hk, ← Nat.mul_mod]
      congr 1
      simp [Nat.mul_assoc, Nat.mul_left_comm, Nat.mul_comm]
    rw [Nat.add_mod, h.val, e1, ← Nat.add_mod]
    simp only [pv]
    rw [Nat.mul_add, Nat.add_assoc]
  · have : (5 * i + k) * 22518000821207120 ≤ 24 * 22518000821207120 := Nat.mul_le_mul_right _ (by omega)
    omega
theorem MInv.next {a b l : List Nat} {i : Nat} (h : MInv a b l i 5) : MInv a b l (i + 1) 0 := by
  refine ⟨by have := h.le; rwa [show 5 * (i + 1) + 0 = 5 * i + 5 by omega], ?_⟩
  rw [h.val, pv_five]
  simp only [pv]
  rw [Nat.add_mul, Nat.mul_zero, Nat.add_zero]
theorem MInv.done {a b l : List Nat} (h : MInv a b l 5 0) : Le 4611686018427387904 l ∧ v5 l % pp = v5 a * v5 b % pp := by
  refine ⟨h.le.mono (by omega), ?_⟩
  rw [h.val, pv_five]
  rw [show pv b 0 = 0 from rfl, Nat.mul_zero, Nat.add_zero]

/-- The number of bytes, the lowest first. -/
def le : List Nat → Nat
  | [] => 0
  | x :: l => x + 256 * le l
theorem le_append (l : List Nat) (x : Nat) : le (l ++ [x]) = le l + x * 256 ^ l.length := by
  induction l with
  | nil => simp [le]
  | cons y l ih =>
    simp only [List.cons_append, le, ih, List.length_cons, Nat.pow_succ]
    rw [Nat.mul_add, ← Nat.add_assoc, Nat.mul_comm 256 (x * _), Nat.mul_assoc]

/-- How many bits limb j holds when b bits have come. -/
def room (b j : Nat) : Nat := 2 ^ min 26 (b - 26 * j)
/-- What the byte i does to the limbs. -/
def nstep (l : List Nat) (i x : Nat) : List Nat :=
  let l1 := l.set (8 * i / 26) (l.getD (8 * i / 26) 0 + x * 2 ^ (8 * i % 26) % 67108864)
  if 18 < 8 * i % 26 ∧ 8 * i / 26 < 4 then l1.set (8 * i / 26 + 1) (l1.getD (8 * i / 26 + 1) 0 + x / 2 ^ (26 - 8 * i % 26)) else l1
/-- The limbs of i bytes. -/
structure NInv (bs : List Nat) (l : List Nat) (i : Nat) : Prop where
  len : l.length = 5
  val : v5 l = le (bs.take i)
  low : ∀ j, j < 5 → l.getD j 0 < room (8 * i) j
theorem NInv.start (bs : List Nat) : NInv bs [0, 0, 0, 0, 0] 0 := ⟨rfl, rfl, fun j hj => by
  rcases (by omega : j = 0 ∨ j = 1 ∨ j = 2 ∨ j = 3 ∨ j = 4) with rfl | rfl | rfl | rfl | rfl <;> decide⟩
theorem low5 {a b c d e r : Nat} (h0 : a < room r 0) (h1 : b < room r 1) (h2 : c < room r 2) (h3 : d < room r 3) (h4 : e < room r 4) : ∀ j, j < 5 → [a, b, c, d, e].getD j 0 < room r j := by
  intro j hj
  rcases (by omega : j = 0 ∨ j = 1 ∨ j = 2 ∨ j = 3 ∨ j = 4) with rfl | rfl | rfl | rfl | rfl
  · exact h0
  · exact h1
  · exact h2
  · exact h3
  · exact h4
theorem nstep_0 (a0 a1 a2 a3 a4 x : Nat) : nstep [a0, a1, a2, a3, a4] 0 x = [a0 + x * 1 % 67108864, a1, a2, a3, a4] := rfl
theorem nval_0 (a0 a1 a2 a3 a4 x : Nat) (hx : x < 256) : v5 [a0 + x * 1 % 67108864, a1, a2, a3, a4] = v5 [a0, a1, a2, a3, a4] + x * 1 := by
  simp only [v5, List.getD_cons_zero, List.getD_cons_succ]
  omega
theorem nlow_0_0 (a0 x : Nat) (hx : x < 256) (l : a0 < 1) : a0 + x * 1 % 67108864 < 256 := by omega
theorem nlow_0_1 (a1 x : Nat) (hx : x < 256) (l : a1 < 1) : a1 < 1 := by omega
theorem nlow_0_2 (a2 x : Nat) (hx : x < 256) (l : a2 < 1) : a2 < 1 := by omega
theorem nlow_0_3 (a3 x : Nat) (hx : x < 256) (l : a3 < 1) : a3 < 1 := by omega
theorem nlow_0_4 (a4 x : Nat) (hx : x < 256) (l : a4 < 1) : a4 < 1 := by omega
theorem nstep_1 (a0 a1 a2 a3 a4 x : Nat) : nstep [a0, a1, a2, a3, a4] 1 x = [a0 + x * 256 % 67108864, a1, a2, a3, a4] := rfl
theorem nval_1 (a0 a1 a2 a3 a4 x : Nat) (hx : x < 256) : v5 [a0 + x * 256 % 67108864, a1, a2, a3, a4] = v5 [a0, a1, a2, a3, a4] + x * 256 := by
  simp only [v5, List.getD_cons_zero, List.getD_cons_succ]
  omega
theorem nlow_1_0 (a0 x : Nat) (hx : x < 256) (l : a0 < 256) : a0 + x * 256 % 67108864 < 65536 := by omega
theorem nlow_1_1 (a1 x : Nat) (hx : x < 256) (l : a1 < 1) : a1 < 1 := by omega
theorem nlow_1_2 (a2 x : Nat) (hx : x < 256) (l : a2 < 1) : a2 < 1 := by omega
theorem nlow_1_3 (a3 x : Nat) (hx : x < 256) (l : a3 < 1) : a3 < 1 := by omega
theorem nlow_1_4 (a4 x : Nat) (hx : x < 256) (l : a4 < 1) : a4 < 1 := by omega
theorem nstep_2 (a0 a1 a2 a3 a4 x : Nat) : nstep [a0, a1, a2, a3, a4] 2 x = [a0 + x * 65536 % 67108864, a1, a2, a3, a4] := rfl
theorem nval_2 (a0 a1 a2 a3 a4 x : Nat) (hx : x < 256) : v5 [a0 + x * 65536 % 67108864, a1, a2, a3, a4] = v5 [a0, a1, a2, a3, a4] + x * 65536 := by
  simp only [v5, List.getD_cons_zero, List.getD_cons_succ]
  omega
theorem nlow_2_0 (a0 x : Nat) (hx : x < 256) (l : a0 < 65536) : a0 + x * 65536 % 67108864 < 16777216 := by omega
theorem nlow_2_1 (a1 x : Nat) (hx : x < 256) (l : a1 < 1) : a1 < 1 := by omega
theorem nlow_2_2 (a2 x : Nat) (hx : x < 256) (l : a2 < 1) : a2 < 1 := by omega
theorem nlow_2_3 (a3 x : Nat) (hx : x < 256) (l : a3 < 1) : a3 < 1 := by omega
theorem nlow_2_4 (a4 x : Nat) (hx : x < 256) (l : a4 < 1) : a4 < 1 := by omega
theorem nstep_3 (a0 a1 a2 a3 a4 x : Nat) : nstep [a0, a1, a2, a3, a4] 3 x = [a0 + x * 16777216 % 67108864, a1 + x / 4, a2, a3, a4] := rfl
theorem nval_3 (a0 a1 a2 a3 a4 x : Nat) (hx : x < 256) : v5 [a0 + x * 16777216 % 67108864, a1 + x / 4, a2, a3, a4] = v5 [a0, a1, a2, a3, a4] + x * 16777216 := by
  simp only [v5, List.getD_cons_zero, List.getD_cons_succ]
  omega
theorem nlow_3_0 (a0 x : Nat) (hx : x < 256) (l : a0 < 16777216) : a0 + x * 16777216 % 67108864 < 67108864 := by omega
theorem nlow_3_1 (a1 x : Nat) (hx : x < 256) (l : a1 < 1) : a1 + x / 4 < 64 := by omega
theorem nlow_3_2 (a2 x : Nat) (hx : x < 256) (l : a2 < 1) : a2 < 1 := by omega
theorem nlow_3_3 (a3 x : Nat) (hx : x < 256) (l : a3 < 1) : a3 < 1 := by omega
theorem nlow_3_4 (a4 x : Nat) (hx : x < 256) (l : a4 < 1) : a4 < 1 := by omega
theorem nstep_4 (a0 a1 a2 a3 a4 x : Nat) : nstep [a0, a1, a2, a3, a4] 4 x = [a0, a1 + x * 64 % 67108864, a2, a3, a4] := rfl
theorem nval_4 (a0 a1 a2 a3 a4 x : Nat) (hx : x < 256) : v5 [a0, a1 + x * 64 % 67108864, a2, a3, a4] = v5 [a0, a1, a2, a3, a4] + x * 4294967296 := by
  simp only [v5, List.getD_cons_zero, List.getD_cons_succ]
  omega
theorem nlow_4_0 (a0 x : Nat) (hx : x < 256) (l : a0 < 67108864) : a0 < 67108864 := by omega
theorem nlow_4_1 (a1 x : Nat) (hx : x < 256) (l : a1 < 64) : a1 + x * 64 % 67108864 < 16384 := by omega
theorem nlow_4_2 (a2 x : Nat) (hx : x < 256) (l : a2 < 1) : a2 < 1 := by omega
theorem nlow_4_3 (a3 x : Nat) (hx : x < 256) (l : a3 < 1) : a3 < 1 := by omega
theorem nlow_4_4 (a4 x : Nat) (hx : x < 256) (l : a4 < 1) : a4 < 1 := by omega
theorem nstep_5 (a0 a1 a2 a3 a4 x : Nat) : nstep [a0, a1, a2, a3, a4] 5 x = [a0, a1 + x * 16384 % 67108864, a2, a3, a4] := rfl
theorem nval_5 (a0 a1 a2 a3 a4 x : Nat) (hx : x < 256) : v5 [a0, a1 + x * 16384 % 67108864, a2, a3, a4] = v5 [a0, a1, a2, a3, a4] + x * 1099511627776 := by
  simp only [v5, List.getD_cons_zero, List.getD_cons_succ]
  omega
theorem nlow_5_0 (a0 x : Nat) (hx : x < 256) (l : a0 < 67108864) : a0 < 67108864 := by omega
theorem nlow_5_1 (a1 x : Nat) (hx : x < 256) (l : a1 < 16384) : a1 + x * 16384 % 67108864 < 4194304 := by omega
theorem nlow_5_2 (a2 x : Nat) (hx : x < 256) (l : a2 < 1) : a2 < 1 := by omega
theorem nlow_5_3 (a3 x : Nat) (hx : x < 256) (l : a3 < 1) : a3 < 1 := by omega
theorem nlow_5_4 (a4 x : Nat) (hx : x < 256) (l : a4 < 1) : a4 < 1 := by omega
theorem nstep_6 (a0 a1 a2 a3 a4 x : Nat) : nstep [a0, a1, a2, a3, a4] 6 x = [a0, a1 + x * 4194304 % 67108864, a2 + x / 16, a3, a4] := rfl
theorem nval_6 (a0 a1 a2 a3 a4 x : Nat) (hx : x < 256) : v5 [a0, a1 + x * 4194304 % 67108864, a2 + x / 16, a3, a4] = v5 [a0, a1, a2, a3, a4] + x * 281474976710656 := by
  simp only [v5, List.getD_cons_zero, List.getD_cons_succ]
  omega
theorem nlow_6_0 (a0 x : Nat) (hx : x < 256) (l : a0 < 67108864) : a0 < 67108864 := by omega
theorem nlow_6_1 (a1 x : Nat) (hx : x < 256) (l : a1 < 4194304) : a1 + x * 4194304 % 67108864 < 67108864 := by omega
theorem nlow_6_2 (a2 x : Nat) (hx : x < 256) (l : a2 < 1) : a2 + x / 16 < 16 := by omega
theorem nlow_6_3 (a3 x : Nat) (hx : x < 256) (l : a3 < 1) : a3 < 1 := by omega
theorem nlow_6_4 (a4 x : Nat) (hx : x < 256) (l : a4 < 1) : a4 < 1 := by omega
theorem nstep_7 (a0 a1 a2 a3 a4 x : Nat) : nstep [a0, a1, a2, a3, a4] 7 x = [a0, a1, a2 + x * 16 % 67108864, a3, a4] := rfl
theorem nval_7 (a0 a1 a2 a3 a4 x : Nat) (hx : x < 256) : v5 [a0, a1, a2 + x * 16 % 67108864, a3, a4] = v5 [a0, a1, a2, a3, a4] + x * 72057594037927936 := by
  simp only [v5, List.getD_cons_zero, List.getD_cons_succ]
  omega
theorem nlow_7_0 (a0 x : Nat) (hx : x < 256) (l : a0 < 67108864) : a0 < 67108864 := by omega
theorem nlow_7_1 (a1 x : Nat) (hx : x < 256) (l : a1 < 67108864) : a1 < 67108864 := by omega
theorem nlow_7_2 (a2 x : Nat) (hx : x < 256) (l : a2 < 16) : a2 + x * 16 % 67108864 < 4096 := by omega
theorem nlow_7_3 (a3 x : Nat) (hx : x < 256) (l : a3 < 1) : a3 < 1 := by omega
theorem nlow_7_4 (a4 x : Nat) (hx : x < 256) (l : a4 < 1) : a4 < 1 := by omega
theorem nstep_8 (a0 a1 a2 a3 a4 x : Nat) : nstep [a0, a1, a2, a3, a4] 8 x = [a0, a1, a2 + x * 4096 % 67108864, a3, a4] := rfl
theorem nval_8 (a0 a1 a2 a3 a4 x : Nat) (hx : x < 256) : v5 [a0, a1, a2 + x * 4096 % 67108864, a3, a4] = v5 [a0, a1, a2, a3, a4] + x * 18446744073709551616 := by
  simp only [v5, List.getD_cons_zero, List.getD_cons_succ]
  omega
theorem nlow_8_0 (a0 x : Nat) (hx : x < 256) (l : a0 < 67108864) : a0 < 67108864 := by omega
theorem nlow_8_1 (a1 x : Nat) (hx : x < 256) (l : a1 < 67108864) : a1 < 67108864 := by omega
theorem nlow_8_2 (a2 x : Nat) (hx : x < 256) (l : a2 < 4096) : a2 + x * 4096 % 67108864 < 1048576 := by omega
theorem nlow_8_3 (a3 x : Nat) (hx : x < 256) (l : a3 < 1) : a3 < 1 := by omega
theorem nlow_8_4 (a4 x : Nat) (hx : x < 256) (l : a4 < 1) : a4 < 1 := by omega
theorem nstep_9 (a0 a1 a2 a3 a4 x : Nat) : nstep [a0, a1, a2, a3, a4] 9 x = [a0, a1, a2 + x * 1048576 % 67108864, a3 + x / 64, a4] := rfl
theorem nval_9 (a0 a1 a2 a3 a4 x : Nat) (hx : x < 256) : v5 [a0, a1, a2 + x * 1048576 % 67108864, a3 + x / 64, a4] = v5 [a0, a1, a2, a3, a4] + x * 4722366482869645213696 := by
  simp only [v5, List.getD_cons_zero, List.getD_cons_succ]
  omega
theorem nlow_9_0 (a0 x : Nat) (hx : x < 256) (l : a0 < 67108864) : a0 < 67108864 := by omega
theorem nlow_9_1 (a1 x : Nat) (hx : x < 256) (l : a1 < 67108864) : a1 < 67108864 := by omega
theorem nlow_9_2 (a2 x : Nat) (hx : x < 256) (l : a2 < 1048576) : a2 + x * 1048576 % 67108864 < 67108864 := by omega
theorem nlow_9_3 (a3 x : Nat) (hx : x < 256) (l : a3 < 1) : a3 + x / 64 < 4 := by omega
theorem nlow_9_4 (a4 x : Nat) (hx : x < 256) (l : a4 < 1) : a4 < 1 := by omega
theorem nstep_10 (a0 a1 a2 a3 a4 x : Nat) : nstep [a0, a1, a2, a3, a4] 10 x = [a0, a1, a2, a3 + x * 4 % 67108864, a4] := rfl
theorem nval_10 (a0 a1 a2 a3 a4 x : Nat) (hx : x < 256) : v5 [a0, a1, a2, a3 + x * 4 % 67108864, a4] = v5 [a0, a1, a2, a3, a4] + x * 1208925819614629174706176 := by
  simp only [v5, List.getD_cons_zero, List.getD_cons_succ]
  omega
theorem nlow_10_0 (a0 x : Nat) (hx : x < 256) (l : a0 < 67108864) : a0 < 67108864 := by omega
theorem nlow_10_1 (a1 x : Nat) (hx : x < 256) (l : a1 < 67108864) : a1 < 67108864 := by omega
theorem nlow_10_2 (a2 x : Nat) (hx : x < 256) (l : a2 < 67108864) : a2 < 67108864 := by omega
theorem nlow_10_3 (a3 x : Nat) (hx : x < 256) (l : a3 < 4) : a3 + x * 4 % 67108864 < 1024 := by omega
theorem nlow_10_4 (a4 x : Nat) (hx : x < 256) (l : a4 < 1) : a4 < 1 := by omega
theorem nstep_11 (a0 a1 a2 a3 a4 x : Nat) : nstep [a0, a1, a2, a3, a4] 11 x = [a0, a1, a2, a3 + x * 1024 % 67108864, a4] := rfl
theorem nval_11 (a0 a1 a2 a3 a4 x : Nat) (hx : x < 256) : v5 [a0, a1, a2, a3 + x * 1024 % 67108864, a4] = v5 [a0, a1, a2, a3, a4] + x * 309485009821345068724781056 := by
  simp only [v5, List.getD_cons_zero, List.getD_cons_succ]
  omega
theorem nlow_11_0 (a0 x : Nat) (hx : x < 256) (l : a0 < 67108864) : a0 < 67108864 := by omega
theorem nlow_11_1 (a1 x : Nat) (hx : x < 256) (l : a1 < 67108864) : a1 < 67108864 := by omega
theorem nlow_11_2 (a2 x : Nat) (hx : x < 256) (l : a2 < 67108864) : a2 < 67108864 := by omega
theorem nlow_11_3 (a3 x : Nat) (hx : x < 256) (l : a3 < 1024) : a3 + x * 1024 % 67108864 < 262144 := by omega
theorem nlow_11_4 (a4 x : Nat) (hx : x < 256) (l : a4 < 1) : a4 < 1 := by omega
theorem nstep_12 (a0 a1 a2 a3 a4 x : Nat) : nstep [a0, a1, a2, a3, a4] 12 x = [a0, a1, a2, a3 + x * 262144 % 67108864, a4] := rfl
theorem nval_12 (a0 a1 a2 a3 a4 x : Nat) (hx : x < 256) : v5 [a0, a1, a2, a3 + x * 262144 % 67108864, a4] = v5 [a0, a1, a2, a3, a4] + x * 79228162514264337593543950336 := by
  simp only [v5, List.getD_cons_zero, List.getD_cons_succ]
  omega
theorem nlow_12_0 (a0 x : Nat) (hx : x < 256) (l : a0 < 67108864) : a0 < 67108864 := by omega
theorem nlow_12_1 (a1 x : Nat) (hx : x < 256) (l : a1 < 67108864) : a1 < 67108864 := by omega
theorem nlow_12_2 (a2 x : Nat) (hx : x < 256) (l : a2 < 67108864) : a2 < 67108864 := by omega
theorem nlow_12_3 (a3 x : Nat) (hx : x < 256) (l : a3 < 262144) : a3 + x * 262144 % 67108864 < 67108864 := by omega
theorem nlow_12_4 (a4 x : Nat) (hx : x < 256) (l : a4 < 1) : a4 < 1 := by omega
theorem nstep_13 (a0 a1 a2 a3 a4 x : Nat) : nstep [a0, a1, a2, a3, a4] 13 x = [a0, a1, a2, a3, a4 + x * 1 % 67108864] := rfl
theorem nval_13 (a0 a1 a2 a3 a4 x : Nat) (hx : x < 256) : v5 [a0, a1, a2, a3, a4 + x * 1 % 67108864] = v5 [a0, a1, a2, a3, a4] + x * 20282409603651670423947251286016 := by
  simp only [v5, List.getD_cons_zero, List.getD_cons_succ]
  omega
theorem nlow_13_0 (a0 x : Nat) (hx : x < 256) (l : a0 < 67108864) : a0 < 67108864 := by omega
theorem nlow_13_1 (a1 x : Nat) (hx : x < 256) (l : a1 < 67108864) : a1 < 67108864 := by omega
theorem nlow_13_2 (a2 x : Nat) (hx : x < 256) (l : a2 < 67108864) : a2 < 67108864 := by omega
theorem nlow_13_3 (a3 x : Nat) (hx : x < 256) (l : a3 < 67108864) : a3 < 67108864 := by omega
theorem nlow_13_4 (a4 x : Nat) (hx : x < 256) (l : a4 < 1) : a4 + x * 1 % 67108864 < 256 := by omega
theorem nstep_14 (a0 a1 a2 a3 a4 x : Nat) : nstep [a0, a1, a2, a3, a4] 14 x = [a0, a1, a2, a3, a4 + x * 256 % 67108864] := rfl
theorem nval_14 (a0 a1 a2 a3 a4 x : Nat) (hx : x < 256) : v5 [a0, a1, a2, a3, a4 + x * 256 % 67108864] = v5 [a0, a1, a2, a3, a4] + x * 5192296858534827628530496329220096 := by
  simp only [v5, List.getD_cons_zero, List.getD_cons_succ]
  omega
theorem nlow_14_0 (a0 x : Nat) (hx : x < 256) (l : a0 < 67108864) : a0 < 67108864 := by omega
theorem nlow_14_1 (a1 x : Nat) (hx : x < 256) (l : a1 < 67108864) : a1 < 67108864 := by omega
theorem nlow_14_2 (a2 x : Nat) (hx : x < 256) (l : a2 < 67108864) : a2 < 67108864 := by omega
theorem nlow_14_3 (a3 x : Nat) (hx : x < 256) (l : a3 < 67108864) : a3 < 67108864 := by omega
theorem nlow_14_4 (a4 x : Nat) (hx : x < 256) (l : a4 < 256) : a4 + x * 256 % 67108864 < 65536 := by omega
theorem nstep_15 (a0 a1 a2 a3 a4 x : Nat) : nstep [a0, a1, a2, a3, a4] 15 x = [a0, a1, a2, a3, a4 + x * 65536 % 67108864] := rfl
theorem nval_15 (a0 a1 a2 a3 a4 x : Nat) (hx : x < 256) : v5 [a0, a1, a2, a3, a4 + x * 65536 % 67108864] = v5 [a0, a1, a2, a3, a4] + x * 1329227995784915872903807060280344576 := by
  simp only [v5, List.getD_cons_zero, List.getD_cons_succ]
  omega
theorem nlow_15_0 (a0 x : Nat) (hx : x < 256) (l : a0 < 67108864) : a0 < 67108864 := by omega
theorem nlow_15_1 (a1 x : Nat) (hx : x < 256) (l : a1 < 67108864) : a1 < 67108864 := by omega
theorem nlow_15_2 (a2 x : Nat) (hx : x < 256) (l : a2 < 67108864) : a2 < 67108864 := by omega
theorem nlow_15_3 (a3 x : Nat) (hx : x < 256) (l : a3 < 67108864) : a3 < 67108864 := by omega
theorem nlow_15_4 (a4 x : Nat) (hx : x < 256) (l : a4 < 65536) : a4 + x * 65536 % 67108864 < 16777216 := by omega
theorem nstep_16 (a0 a1 a2 a3 a4 x : Nat) : nstep [a0, a1, a2, a3, a4] 16 x = [a0, a1, a2, a3, a4 + x * 16777216 % 67108864] := rfl
theorem nval_16 (a0 a1 a2 a3 a4 x : Nat) (hx : x ≤ 3) : v5 [a0, a1, a2, a3, a4 + x * 16777216 % 67108864] = v5 [a0, a1, a2, a3, a4] + x * 340282366920938463463374607431768211456 := by
  simp only [v5, List.getD_cons_zero, List.getD_cons_succ]
  omega
theorem nlow_16_0 (a0 x : Nat) (hx : x ≤ 3) (l : a0 < 67108864) : a0 < 67108864 := by omega
theorem nlow_16_1 (a1 x : Nat) (hx : x ≤ 3) (l : a1 < 67108864) : a1 < 67108864 := by omega
theorem nlow_16_2 (a2 x : Nat) (hx : x ≤ 3) (l : a2 < 67108864) : a2 < 67108864 := by omega
theorem nlow_16_3 (a3 x : Nat) (hx : x ≤ 3) (l : a3 < 67108864) : a3 < 67108864 := by omega
theorem nlow_16_4 (a4 x : Nat) (hx : x ≤ 3) (l : a4 < 16777216) : a4 + x * 16777216 % 67108864 < 67108864 := by omega
theorem NInv.step {bs l : List Nat} {i : Nat} (h : NInv bs l i) (hi : i < 17) (hb : i < bs.length) (hx : bs.getD i 0 < 256) (h16 : i = 16 → bs.getD i 0 ≤ 3) : NInv bs (nstep l i (bs.getD i 0)) (i + 1) := by
  have hv := h.val
  have e : le (bs.take (i + 1)) = le (bs.take i) + bs.getD i 0 * 256 ^ i := by
    rw [List.take_add_one, List.getElem?_eq_getElem hb]
    simp only [Option.toList_some, le_append]
    rw [List.length_take, Nat.min_eq_left (by omega)]
    simp [List.getD, List.getElem?_eq_getElem hb]
  generalize bs.getD i 0 = x at *
  rw [← hv] at e
  have l0 := h.low 0 (by omega); have l1 := h.low 1 (by omega); have l2 := h.low 2 (by omega); have l3 := h.low 3 (by omega); have l4 := h.low 4 (by omega)
  obtain ⟨a0, a1, a2, a3, a4, rfl⟩ := list5 h.len
  clear h hv
  rcases (by omega : i = 0 ∨ i = 1 ∨ i = 2 ∨ i = 3 ∨ i = 4 ∨ i = 5 ∨ i = 6 ∨ i = 7 ∨ i = 8 ∨ i = 9 ∨ i = 10 ∨ i = 11 ∨ i = 12 ∨ i = 13 ∨ i = 14 ∨ i = 15 ∨ i = 16) with rfl | rfl | rfl | rfl | rfl | rfl | rfl | rfl | rfl | rfl | rfl | rfl | rfl | rfl | rfl | rfl | rfl
  · rw [nstep_0]
    exact ⟨rfl, (nval_0 a0 a1 a2 a3 a4 x hx).trans e.symm, low5 (nlow_0_0 a0 x hx l0) (nlow_0_1 a1 x hx l1) (nlow_0_2 a2 x hx l2) (nlow_0_3 a3 x hx l3) (nlow_0_4 a4 x hx l4)⟩
  · rw [nstep_1]
    exact ⟨rfl, (nval_1 a0 a1 a2 a3 a4 x hx).trans e.symm, low5 (nlow_1_0 a0 x hx l0) (nlow_1_1 a1 x hx l1) (nlow_1_2 a2 x hx l2) (nlow_1_3 a3 x hx l3) (nlow_1_4 a4 x hx l4)⟩
  · rw [nstep_2]
    exact ⟨rfl, (nval_2 a0 a1 a2 a3 a4 x hx).trans e.symm, low5 (nlow_2_0 a0 x hx l0) (nlow_2_1 a1 x hx l1) (nlow_2_2 a2 x hx l2) (nlow_2_3 a3 x hx l3) (nlow_2_4 a4 x hx l4)⟩
  · rw [nstep_3]
    exact ⟨rfl, (nval_3 a0 a1 a2 a3 a4 x hx).trans e.symm, low5 (nlow_3_0 a0 x hx l0) (nlow_3_1 a1 x hx l1) (nlow_3_2 a2 x hx l2) (nlow_3_3 a3 x hx l3) (nlow_3_4 a4 x hx l4)⟩
  · rw [nstep_4]
    exact ⟨rfl, (nval_4 a0 a1 a2 a3 a4 x hx).trans e.symm, low5 (nlow_4_0 a0 x hx l0) (nlow_4_1 a1 x hx l1) (nlow_4_2 a2 x hx l2) (nlow_4_3 a3 x hx l3) (nlow_4_4 a4 x hx l4)⟩
  · rw [nstep_5]
    exact ⟨rfl, (nval_5 a0 a1 a2 a3 a4 x hx).trans e.symm, low5 (nlow_5_0 a0 x hx l0) (nlow_5_1 a1 x hx l1) (nlow_5_2 a2 x hx l2) (nlow_5_3 a3 x hx l3) (nlow_5_4 a4 x hx l4)⟩
  · rw [nstep_6]
    exact ⟨rfl, (nval_6 a0 a1 a2 a3 a4 x hx).trans e.symm, low5 (nlow_6_0 a0 x hx l0) (nlow_6_1 a1 x hx l1) (nlow_6_2 a2 x hx l2) (nlow_6_3 a3 x hx l3) (nlow_6_4 a4 x hx l4)⟩
  · rw [nstep_7]
    exact ⟨rfl, (nval_7 a0 a1 a2 a3 a4 x hx).trans e.symm, low5 (nlow_7_0 a0 x hx l0) (nlow_7_1 a1 x hx l1) (nlow_7_2 a2 x hx l2) (nlow_7_3 a3 x hx l3) (nlow_7_4 a4 x hx l4)⟩
  · rw [nstep_8]
    exact ⟨rfl, (nval_8 a0 a1 a2 a3 a4 x hx).trans e.symm, low5 (nlow_8_0 a0 x hx l0) (nlow_8_1 a1 x hx l1) (nlow_8_2 a2 x hx l2) (nlow_8_3 a3 x hx l3) (nlow_8_4 a4 x hx l4)⟩
  · rw [nstep_9]
    exact ⟨rfl, (nval_9 a0 a1 a2 a3 a4 x hx).trans e.symm, low5 (nlow_9_0 a0 x hx l0) (nlow_9_1 a1 x hx l1) (nlow_9_2 a2 x hx l2) (nlow_9_3 a3 x hx l3) (nlow_9_4 a4 x hx l4)⟩
  · rw [nstep_10]
    exact ⟨rfl, (nval_10 a0 a1 a2 a3 a4 x hx).trans e.symm, low5 (nlow_10_0 a0 x hx l0) (nlow_10_1 a1 x hx l1) (nlow_10_2 a2 x hx l2) (nlow_10_3 a3 x hx l3) (nlow_10_4 a4 x hx l4)⟩
  · rw [nstep_11]
    exact ⟨rfl, (nval_11 a0 a1 a2 a3 a4 x hx).trans e.symm, low5 (nlow_11_0 a0 x hx l0) (nlow_11_1 a1 x hx l1) (nlow_11_2 a2 x hx l2) (nlow_11_3 a3 x hx l3) (nlow_11_4 a4 x hx l4)⟩
  · rw [nstep_12]
    exact ⟨rfl, (nval_12 a0 a1 a2 a3 a4 x hx).trans e.symm, low5 (nlow_12_0 a0 x hx l0) (nlow_12_1 a1 x hx l1) (nlow_12_2 a2 x hx l2) (nlow_12_3 a3 x hx l3) (nlow_12_4 a4 x hx l4)⟩
  · rw [nstep_13]
    exact ⟨rfl, (nval_13 a0 a1 a2 a3 a4 x hx).trans e.symm, low5 (nlow_13_0 a0 x hx l0) (nlow_13_1 a1 x hx l1) (nlow_13_2 a2 x hx l2) (nlow_13_3 a3 x hx l3) (nlow_13_4 a4 x hx l4)⟩
  · rw [nstep_14]
    exact ⟨rfl, (nval_14 a0 a1 a2 a3 a4 x hx).trans e.symm, low5 (nlow_14_0 a0 x hx l0) (nlow_14_1 a1 x hx l1) (nlow_14_2 a2 x hx l2) (nlow_14_3 a3 x hx l3) (nlow_14_4 a4 x hx l4)⟩
  · rw [nstep_15]
    exact ⟨rfl, (nval_15 a0 a1 a2 a3 a4 x hx).trans e.symm, low5 (nlow_15_0 a0 x hx l0) (nlow_15_1 a1 x hx l1) (nlow_15_2 a2 x hx l2) (nlow_15_3 a3 x hx l3) (nlow_15_4 a4 x hx l4)⟩
  · rw [nstep_16]
    exact ⟨rfl, (nval_16 a0 a1 a2 a3 a4 x (h16 rfl)).trans e.symm, low5 (nlow_16_0 a0 x (h16 rfl) l0) (nlow_16_1 a1 x (h16 rfl) l1) (nlow_16_2 a2 x (h16 rfl) l2) (nlow_16_3 a3 x (h16 rfl) l3) (nlow_16_4 a4 x (h16 rfl) l4)⟩
end Go.Proofs.YtajpblfinenmjaaDoor.Poly
