/- The ghost machine: an evaluator of the program's text over plain data, and its soundness. -/
import Init
set_option linter.unusedVariables false
set_option linter.unusedSimpArgs false
namespace Go.Proofs.YtajpblfinenmjaaGreatDoor.Poly

def v5 (l : List Nat) : Nat := l.getD 0 0 + l.getD 1 0 * 67108864 + l.getD 2 0 * 4503599627370496 + l.getD 3 0 * 302231454903657293676544 + l.getD 4 0 * 20282409603651670423947251286016
def pl : Nat → Nat
 | 0 => 1
 | 1 => 67108864
 | 2 => 4503599627370496
 | 3 => 302231454903657293676544
 | 4 => 20282409603651670423947251286016
 | _ => 1361129467683753853853498429727072845824
def pp : Nat := 1361129467683753853853498429727072845819

theorem list5 {l : List Nat} (h : l.length = 5) : ∃ a b c d e, l = [a, b, c, d, e] := by
 match l, h with
 | [a, b, c, d, e], _ => exact ⟨a, b, c, d, e, rfl⟩

structure Bd (r : Nat) (l : List Nat) : Prop where
 len : l.length = 5
 all : ∀ i, i < 5 → l.getD i 0 ≤ 4611686018427387904
 one : r = 1 → l.getD 0 0 ≤ 2199023255552
 two : 2 ≤ r → l.getD 0 0 ≤ 67108868
 high : 1 ≤ r → ∀ i, 1 ≤ i → i < 5 → l.getD i 0 ≤ 67108863

structure CInv (r : Nat) (l0 l : List Nat) (j c : Nat) : Prop where
 len : l.length = 5
 sum : v5 l + c * pl j = v5 l0
 low : ∀ i, i < j → l.getD i 0 ≤ 67108863
 up : ∀ i, j ≤ i → i < 5 → l.getD i 0 = l0.getD i 0
 big : c ≤ 137438953472
 r1 : r = 1 → (j = 0 → c = 0) ∧ (j = 1 → c ≤ 65536) ∧ (2 ≤ j → c ≤ 1)

theorem CInv.start {r : Nat} {l : List Nat} (h : Bd r l) : CInv r l l 0 0 where
 len := h.len
 sum := by rw [Nat.zero_mul, Nat.add_zero]
 low := fun i hi => absurd hi (Nat.not_lt_zero i)
 up := fun i _ _ => rfl
 big := Nat.zero_le _
 r1 := fun _ => ⟨fun _ => rfl, fun _ => Nat.zero_le _, fun _ => Nat.zero_le _⟩

theorem CInv.step {r : Nat} {l0 l : List Nat} {j c : Nat} (hb : Bd r l0) (h : CInv r l0 l j c) (hj : j < 5) :
  CInv r l0 (l.set j ((l.getD j 0 + c) % 67108864)) (j + 1) ((l.getD j 0 + c) / 67108864) ∧ l.getD j 0 + c ≤ 18446744073709551615 := by
 have hx := h.up j (Nat.le_refl _) hj
 have hbj := hb.all j hj
 have hc := h.big
 have hxx : l.getD j 0 ≤ 4611686018427387904 := by rw [hx]; exact hbj
 refine ⟨⟨by simp [h.len], ?_, ?_, ?_, ?_, ?_⟩, by omega⟩
 ·have hs := h.sum
  obtain ⟨a0, a1, a2, a3, a4, rfl⟩ := list5 h.len
  rw [← hs]
  rcases (by omega : j = 0 ∨ j = 1 ∨ j = 2 ∨ j = 3 ∨ j = 4) with rfl | rfl | rfl | rfl | rfl
  all_goals
   simp only [List.getD_cons_zero, List.getD_cons_succ, v5, List.set_cons_zero, List.set_cons_succ, pl]
   omega
 ·intro i hi
  by_cases hij : i = j
  ·subst hij
   rw [List.getD_eq_getElem?_getD, List.getElem?_set_self (by rw [h.len]; exact hj)]
   simp only [Option.getD_some]
   omega
  ·rw [List.getD_eq_getElem?_getD, List.getElem?_set_ne (fun e => hij e.symm), ← List.getD_eq_getElem?_getD]
   exact h.low i (by omega)
 ·intro i hi hi5
  rw [List.getD_eq_getElem?_getD, List.getElem?_set_ne (by omega), ← List.getD_eq_getElem?_getD]
  exact h.up i (by omega) hi5
 ·omega
 ·intro hr
  have h1 := h.r1 hr
  have h0 := hb.one hr
  have hh := hb.high (by omega)
  refine ⟨fun e => absurd e (by omega), fun e => ?_, fun e => ?_⟩
  ·obtain rfl : j = 0 := by omega
   have := h1.1 rfl
   rw [← hx] at h0
   omega
  ·have := hh j (by omega) hj
   rw [← hx] at this
   by_cases h2 : 2 ≤ j
   ·have := h1.2.2 h2; omega
   ·have := h1.2.1 (by omega); omega

theorem CInv.done {r : Nat} {l0 l : List Nat} {c : Nat} (h : CInv r l0 l 5 c) (hr : r < 2) :
  Bd (r + 1) (l.set 0 (l.getD 0 0 + 5 * c)) ∧ v5 (l.set 0 (l.getD 0 0 + 5 * c)) % pp = v5 l0 % pp ∧ l.getD 0 0 + 5 * c ≤ 18446744073709551615 ∧ 5 * c ≤ 18446744073709551615 := by
 have hs := h.sum
 have hc := h.big
 have l0' := h.low 0 (by omega)
 have l1 := h.low 1 (by omega)
 have l2 := h.low 2 (by omega)
 have l3 := h.low 3 (by omega)
 have l4 := h.low 4 (by omega)
 have hr1 := h.r1
 obtain ⟨a0, a1, a2, a3, a4, rfl⟩ := list5 h.len
 simp only [List.getD_cons_zero, List.getD_cons_succ] at l0' l1 l2 l3 l4
 simp only [List.getD_cons_zero, List.set_cons_zero]
 refine ⟨⟨rfl, ?_, ?_, ?_, ?_⟩, ?_, by omega, by omega⟩
 ·intro i hi
  rcases (by omega : i = 0 ∨ i = 1 ∨ i = 2 ∨ i = 3 ∨ i = 4) with rfl | rfl | rfl | rfl | rfl
  all_goals
   simp only [List.getD_cons_zero, List.getD_cons_succ]
   omega
 ·intro _
  simp only [List.getD_cons_zero]
  omega
 ·intro h2
  have := (hr1 (by omega)).2.2 (by omega)
  simp only [List.getD_cons_zero]
  omega
 ·intro _ i hi hi5
  rcases (by omega : i = 1 ∨ i = 2 ∨ i = 3 ∨ i = 4) with rfl | rfl | rfl | rfl
  all_goals
   simp only [List.getD_cons_zero, List.getD_cons_succ]
   omega
 ·rw [← hs]
  simp only [v5, List.getD_cons_zero, List.getD_cons_succ, pl, pp]
  omega

def Le (B : Nat) (l : List Nat) : Prop := l.length = 5 ∧ ∀ i, i < 5 → l.getD i 0 ≤ B
theorem Le.bd {l : List Nat} (h : Le 4611686018427387904 l) : Bd 0 l := ⟨h.1, h.2, fun e => absurd e (by omega), fun e => absurd e (by omega), fun e => absurd e (by omega)⟩
theorem Bd.le {l : List Nat} (h : Bd 2 l) : Le 67108868 l := ⟨h.len, fun i hi => by
 rcases Nat.eq_zero_or_pos i with rfl | h1
 ·exact h.two (Nat.le_refl _)
 ·exact Nat.le_trans (h.high (by omega) i h1 hi) (by omega)⟩
theorem Le.mono {B C : Nat} {l : List Nat} (h : Le B l) (k : B ≤ C) : Le C l := ⟨h.1, fun i hi => Nat.le_trans (h.2 i hi) k⟩

structure AInv (a b l : List Nat) (k : Nat) : Prop where
 len : l.length = 5
 low : ∀ i, i < k → l.getD i 0 = a.getD i 0 + b.getD i 0
 up : ∀ i, k ≤ i → i < 5 → l.getD i 0 = a.getD i 0
theorem zw4e {l : List Nat} {k x : Nat} (h : k < l.length) : (l.set k x).getD k 0 = x := by
 rw [List.getD_eq_getElem?_getD, List.getElem?_set_self h]; rfl
theorem zw2o {l : List Nat} {k i x : Nat} (h : k ≠ i) : (l.set k x).getD i 0 = l.getD i 0 := by
 rw [List.getD_eq_getElem?_getD, List.getElem?_set_ne h, ← List.getD_eq_getElem?_getD]
theorem AInv.step {a b l : List Nat} {k : Nat} (h : AInv a b l k) (hk : k < 5) : AInv a b (l.set k (l.getD k 0 + b.getD k 0)) (k + 1) where
 len := by simp [h.len]
 low := fun i hi => by
  by_cases e : k = i
  ·subst e; rw [zw4e (by rw [h.len]; exact hk), h.up k (Nat.le_refl _) hk]
  ·rw [zw2o e]; exact h.low i (by omega)
 up := fun i hi h5 => by rw [zw2o (by omega)]; exact h.up i (by omega) h5
theorem AInv.done {a b l : List Nat} (h : AInv a b l 5) {B : Nat} (ha : Le B a) (hb : Le B b) : Le (2 * B) l ∧ v5 l = v5 a + v5 b := by
 refine ⟨⟨h.len, fun i hi => ?_⟩, ?_⟩
 ·have := ha.2 i hi; have := hb.2 i hi; rw [h.low i hi]; omega
 ·unfold v5
  rw [h.low 0 (by omega), h.low 1 (by omega), h.low 2 (by omega), h.low 3 (by omega), h.low 4 (by omega)]
  omega

def pv (l : List Nat) : Nat → Nat
 | 0 => 0
 | k + 1 => pv l k + l.getD k 0 * pl k
theorem zwa4 (l : List Nat) : pv l 5 = v5 l := by simp [pv, pl, v5]
theorem v5_set {l : List Nat} (h : l.length = 5) {j : Nat} (hj : j < 5) (x : Nat) : v5 (l.set j (l.getD j 0 + x)) = v5 l + x * pl j := by
 obtain ⟨a, b, c, d, e, rfl⟩ := list5 h
 rcases (by omega : j = 0 ∨ j = 1 ∨ j = 2 ∨ j = 3 ∨ j = 4) with rfl | rfl | rfl | rfl | rfl
 all_goals
  simp only [List.getD_cons_zero, List.getD_cons_succ, v5, List.set_cons_zero, List.set_cons_succ, pl]
  omega
theorem pl_mul (i k : Nat) (hi : i < 5) (hk : k < 5) : (if 5 ≤ i + k then 5 else 1) * pl ((i + k) % 5) % pp = pl i * pl k % pp := by
 rcases (by omega : i = 0 ∨ i = 1 ∨ i = 2 ∨ i = 3 ∨ i = 4) with rfl | rfl | rfl | rfl | rfl <;>
 rcases (by omega : k = 0 ∨ k = 1 ∨ k = 2 ∨ k = 3 ∨ k = 4) with rfl | rfl | rfl | rfl | rfl <;> decide

structure MInv (a b l : List Nat) (i k : Nat) : Prop where
 le : Le ((5 * i + k) * 22518000821207120) l
 val : v5 l % pp = (pv a i * v5 b + a.getD i 0 * pl i * pv b k) % pp
def mterm (a b : List Nat) (i k : Nat) : Nat := a.getD i 0 * b.getD k 0 * (if 5 ≤ i + k then 5 else 1)
theorem mul_bd {a b : List Nat} (ha : Le 67108868 a) (hb : Le 67108868 b) {i k : Nat} (hi : i < 5) (hk : k < 5) : a.getD i 0 * b.getD k 0 ≤ 4503600164241424 := Nat.mul_le_mul (ha.2 i hi) (hb.2 k hk)
theorem MInv.start (a b : List Nat) : MInv a b [0, 0, 0, 0, 0] 0 0 := ⟨⟨rfl, fun i hi => by
 rcases (by omega : i = 0 ∨ i = 1 ∨ i = 2 ∨ i = 3 ∨ i = 4) with rfl | rfl | rfl | rfl | rfl <;> simp⟩, by simp [v5, pv]⟩
theorem MInv.step {a b l : List Nat} {i k : Nat} (ha : Le 67108868 a) (hb : Le 67108868 b) (h : MInv a b l i k) (hi : i < 5) (hk : k < 5) :
  MInv a b (l.set ((i + k) % 5) (l.getD ((i + k) % 5) 0 + mterm a b i k)) i (k + 1) ∧ l.getD ((i + k) % 5) 0 + mterm a b i k ≤ 18446744073709551615 := by
 have hm := mul_bd ha hb hi hk
 have ht : mterm a b i k ≤ 22518000821207120 := by
  unfold mterm
  split <;> omega
 have hj : (i + k) % 5 < 5 := Nat.mod_lt _ (by decide)
 have hle := h.le.2 _ hj
 refine ⟨⟨⟨by simp [h.le.1], fun q hq => ?_⟩, ?_⟩, ?_⟩
 ·by_cases e : (i + k) % 5 = q
  ·subst e
   rw [zw4e (by rw [h.le.1]; exact hj)]
   rw [show (5 * i + (k + 1)) * 22518000821207120 = (5 * i + k) * 22518000821207120 + 22518000821207120 by omega]
   omega
  ·rw [zw2o e]
   exact Nat.le_trans (h.le.2 q hq) (Nat.mul_le_mul_right _ (by omega))
 ·rw [v5_set h.le.1 hj]
  have e1 : mterm a b i k * pl ((i + k) % 5) % pp = a.getD i 0 * pl i * (b.getD k 0 * pl k) % pp := by
   unfold mterm
   rw [Nat.mul_assoc, Nat.mul_mod, pl_mul i k hi hk, ← Nat.mul_mod]
   congr 1
   simp [Nat.mul_assoc, Nat.mul_left_comm, Nat.mul_comm]
  rw [Nat.add_mod, h.val, e1, ← Nat.add_mod]
  simp only [pv]
  rw [Nat.mul_add, Nat.add_assoc]
 ·have : (5 * i + k) * 22518000821207120 ≤ 24 * 22518000821207120 := Nat.mul_le_mul_right _ (by omega)
  omega
theorem MInv.next {a b l : List Nat} {i : Nat} (h : MInv a b l i 5) : MInv a b l (i + 1) 0 := by
 refine ⟨by have := h.le; rwa [show 5 * (i + 1) + 0 = 5 * i + 5 by omega], ?_⟩
 rw [h.val, zwa4]
 simp only [pv]
 rw [Nat.add_mul, Nat.mul_zero, Nat.add_zero]
theorem MInv.done {a b l : List Nat} (h : MInv a b l 5 0) : Le 4611686018427387904 l ∧ v5 l % pp = v5 a * v5 b % pp := by
 refine ⟨h.le.mono (by omega), ?_⟩
 rw [h.val, zwa4]
 rw [show pv b 0 = 0 from rfl, Nat.mul_zero, Nat.add_zero]

def le : List Nat → Nat
 | [] => 0
 | x :: l => x + 256 * le l
theorem zw4f (l : List Nat) (x : Nat) : le (l ++ [x]) = le l + x * 256 ^ l.length := by
 induction l with
 | nil => simp [le]
 | cons y l ih =>
  simp only [List.cons_append, le, ih, List.length_cons, Nat.pow_succ]
  rw [Nat.mul_add, ← Nat.add_assoc, Nat.mul_comm 256 (x * _), Nat.mul_assoc]

def room (b j : Nat) : Nat := 2 ^ min 26 (b - 26 * j)
def nstep (l : List Nat) (i x : Nat) : List Nat :=
 let l1 := l.set (8 * i / 26) (l.getD (8 * i / 26) 0 + x * 2 ^ (8 * i % 26) % 67108864)
 if 18 < 8 * i % 26 ∧ 8 * i / 26 < 4 then l1.set (8 * i / 26 + 1) (l1.getD (8 * i / 26 + 1) 0 + x / 2 ^ (26 - 8 * i % 26)) else l1
structure NInv (bs : List Nat) (l : List Nat) (i : Nat) : Prop where
 len : l.length = 5
 val : v5 l = le (bs.take i)
 low : ∀ j, j < 5 → l.getD j 0 < room (8 * i) j
theorem NInv.start (bs : List Nat) : NInv bs [0, 0, 0, 0, 0] 0 := ⟨rfl, rfl, fun j hj => by
 rcases (by omega : j = 0 ∨ j = 1 ∨ j = 2 ∨ j = 3 ∨ j = 4) with rfl | rfl | rfl | rfl | rfl <;> decide⟩
theorem low5 {a b c d e r : Nat} (h0 : a < room r 0) (h1 : b < room r 1) (h2 : c < room r 2) (h3 : d < room r 3) (h4 : e < room r 4) : ∀ j, j < 5 → [a, b, c, d, e].getD j 0 < room r j := by
 intro j hj
 rcases (by omega : j = 0 ∨ j = 1 ∨ j = 2 ∨ j = 3 ∨ j = 4) with rfl | rfl | rfl | rfl | rfl
 ·exact h0
 ·exact h1
 ·exact h2
 ·exact h3
 ·exact h4
theorem zwa5 (a0 a1 a2 a3 a4 x : Nat) : nstep [a0, a1, a2, a3, a4] 0 x = [a0 + x * 1 % 67108864, a1, a2, a3, a4] := rfl
theorem nval_0 (a0 a1 a2 a3 a4 x : Nat) (hx : x < 256) : v5 [a0 + x * 1 % 67108864, a1, a2, a3, a4] = v5 [a0, a1, a2, a3, a4] + x * 1 := by
 simp only [v5, List.getD_cons_zero, List.getD_cons_succ]
 omega
theorem zwh1 (a0 x : Nat) (hx : x < 256) (l : a0 < 1) : a0 + x * 1 % 67108864 < 256 := by omega
theorem zwh2 (a1 x : Nat) (hx : x < 256) (l : a1 < 1) : a1 < 1 := by omega
theorem zwh3 (a2 x : Nat) (hx : x < 256) (l : a2 < 1) : a2 < 1 := by omega
theorem zwh4 (a3 x : Nat) (hx : x < 256) (l : a3 < 1) : a3 < 1 := by omega
theorem zwh5 (a4 x : Nat) (hx : x < 256) (l : a4 < 1) : a4 < 1 := by omega
theorem zwa6 (a0 a1 a2 a3 a4 x : Nat) : nstep [a0, a1, a2, a3, a4] 1 x = [a0 + x * 256 % 67108864, a1, a2, a3, a4] := rfl
theorem nval_1 (a0 a1 a2 a3 a4 x : Nat) (hx : x < 256) : v5 [a0 + x * 256 % 67108864, a1, a2, a3, a4] = v5 [a0, a1, a2, a3, a4] + x * 256 := by
 simp only [v5, List.getD_cons_zero, List.getD_cons_succ]
 omega
theorem zwh6 (a0 x : Nat) (hx : x < 256) (l : a0 < 256) : a0 + x * 256 % 67108864 < 65536 := by omega
theorem zwh7 (a1 x : Nat) (hx : x < 256) (l : a1 < 1) : a1 < 1 := by omega
theorem zwh8 (a2 x : Nat) (hx : x < 256) (l : a2 < 1) : a2 < 1 := by omega
theorem zwh9 (a3 x : Nat) (hx : x < 256) (l : a3 < 1) : a3 < 1 := by omega
theorem zwha (a4 x : Nat) (hx : x < 256) (l : a4 < 1) : a4 < 1 := by omega
theorem zwa7 (a0 a1 a2 a3 a4 x : Nat) : nstep [a0, a1, a2, a3, a4] 2 x = [a0 + x * 65536 % 67108864, a1, a2, a3, a4] := rfl
theorem nval_2 (a0 a1 a2 a3 a4 x : Nat) (hx : x < 256) : v5 [a0 + x * 65536 % 67108864, a1, a2, a3, a4] = v5 [a0, a1, a2, a3, a4] + x * 65536 := by
 simp only [v5, List.getD_cons_zero, List.getD_cons_succ]
 omega
theorem zwhb (a0 x : Nat) (hx : x < 256) (l : a0 < 65536) : a0 + x * 65536 % 67108864 < 16777216 := by omega
theorem zwhc (a1 x : Nat) (hx : x < 256) (l : a1 < 1) : a1 < 1 := by omega
theorem zwhd (a2 x : Nat) (hx : x < 256) (l : a2 < 1) : a2 < 1 := by omega
theorem zwhe (a3 x : Nat) (hx : x < 256) (l : a3 < 1) : a3 < 1 := by omega
theorem zwhf (a4 x : Nat) (hx : x < 256) (l : a4 < 1) : a4 < 1 := by omega
theorem zwa8 (a0 a1 a2 a3 a4 x : Nat) : nstep [a0, a1, a2, a3, a4] 3 x = [a0 + x * 16777216 % 67108864, a1 + x / 4, a2, a3, a4] := rfl
theorem nval_3 (a0 a1 a2 a3 a4 x : Nat) (hx : x < 256) : v5 [a0 + x * 16777216 % 67108864, a1 + x / 4, a2, a3, a4] = v5 [a0, a1, a2, a3, a4] + x * 16777216 := by
 simp only [v5, List.getD_cons_zero, List.getD_cons_succ]
 omega
theorem zwhg (a0 x : Nat) (hx : x < 256) (l : a0 < 16777216) : a0 + x * 16777216 % 67108864 < 67108864 := by omega
theorem zwhh (a1 x : Nat) (hx : x < 256) (l : a1 < 1) : a1 + x / 4 < 64 := by omega
theorem zwhi (a2 x : Nat) (hx : x < 256) (l : a2 < 1) : a2 < 1 := by omega
theorem zwhj (a3 x : Nat) (hx : x < 256) (l : a3 < 1) : a3 < 1 := by omega
theorem zwhk (a4 x : Nat) (hx : x < 256) (l : a4 < 1) : a4 < 1 := by omega
theorem zwa9 (a0 a1 a2 a3 a4 x : Nat) : nstep [a0, a1, a2, a3, a4] 4 x = [a0, a1 + x * 64 % 67108864, a2, a3, a4] := rfl
theorem nval_4 (a0 a1 a2 a3 a4 x : Nat) (hx : x < 256) : v5 [a0, a1 + x * 64 % 67108864, a2, a3, a4] = v5 [a0, a1, a2, a3, a4] + x * 4294967296 := by
 simp only [v5, List.getD_cons_zero, List.getD_cons_succ]
 omega
theorem zwhl (a0 x : Nat) (hx : x < 256) (l : a0 < 67108864) : a0 < 67108864 := by omega
theorem zwhm (a1 x : Nat) (hx : x < 256) (l : a1 < 64) : a1 + x * 64 % 67108864 < 16384 := by omega
theorem zwhn (a2 x : Nat) (hx : x < 256) (l : a2 < 1) : a2 < 1 := by omega
theorem zwho (a3 x : Nat) (hx : x < 256) (l : a3 < 1) : a3 < 1 := by omega
theorem zwhp (a4 x : Nat) (hx : x < 256) (l : a4 < 1) : a4 < 1 := by omega
theorem zwaa (a0 a1 a2 a3 a4 x : Nat) : nstep [a0, a1, a2, a3, a4] 5 x = [a0, a1 + x * 16384 % 67108864, a2, a3, a4] := rfl
theorem nval_5 (a0 a1 a2 a3 a4 x : Nat) (hx : x < 256) : v5 [a0, a1 + x * 16384 % 67108864, a2, a3, a4] = v5 [a0, a1, a2, a3, a4] + x * 1099511627776 := by
 simp only [v5, List.getD_cons_zero, List.getD_cons_succ]
 omega
theorem zwhq (a0 x : Nat) (hx : x < 256) (l : a0 < 67108864) : a0 < 67108864 := by omega
theorem zwhr (a1 x : Nat) (hx : x < 256) (l : a1 < 16384) : a1 + x * 16384 % 67108864 < 4194304 := by omega
theorem zwhs (a2 x : Nat) (hx : x < 256) (l : a2 < 1) : a2 < 1 := by omega
theorem zwht (a3 x : Nat) (hx : x < 256) (l : a3 < 1) : a3 < 1 := by omega
theorem zwhu (a4 x : Nat) (hx : x < 256) (l : a4 < 1) : a4 < 1 := by omega
theorem zwab (a0 a1 a2 a3 a4 x : Nat) : nstep [a0, a1, a2, a3, a4] 6 x = [a0, a1 + x * 4194304 % 67108864, a2 + x / 16, a3, a4] := rfl
theorem nval_6 (a0 a1 a2 a3 a4 x : Nat) (hx : x < 256) : v5 [a0, a1 + x * 4194304 % 67108864, a2 + x / 16, a3, a4] = v5 [a0, a1, a2, a3, a4] + x * 281474976710656 := by
 simp only [v5, List.getD_cons_zero, List.getD_cons_succ]
 omega
theorem zwhv (a0 x : Nat) (hx : x < 256) (l : a0 < 67108864) : a0 < 67108864 := by omega
theorem zwhw (a1 x : Nat) (hx : x < 256) (l : a1 < 4194304) : a1 + x * 4194304 % 67108864 < 67108864 := by omega
theorem zwhx (a2 x : Nat) (hx : x < 256) (l : a2 < 1) : a2 + x / 16 < 16 := by omega
theorem zwhy (a3 x : Nat) (hx : x < 256) (l : a3 < 1) : a3 < 1 := by omega
theorem zwhz (a4 x : Nat) (hx : x < 256) (l : a4 < 1) : a4 < 1 := by omega
theorem zwac (a0 a1 a2 a3 a4 x : Nat) : nstep [a0, a1, a2, a3, a4] 7 x = [a0, a1, a2 + x * 16 % 67108864, a3, a4] := rfl
theorem nval_7 (a0 a1 a2 a3 a4 x : Nat) (hx : x < 256) : v5 [a0, a1, a2 + x * 16 % 67108864, a3, a4] = v5 [a0, a1, a2, a3, a4] + x * 72057594037927936 := by
 simp only [v5, List.getD_cons_zero, List.getD_cons_succ]
 omega
theorem zwi0 (a0 x : Nat) (hx : x < 256) (l : a0 < 67108864) : a0 < 67108864 := by omega
theorem zwi1 (a1 x : Nat) (hx : x < 256) (l : a1 < 67108864) : a1 < 67108864 := by omega
theorem zwi2 (a2 x : Nat) (hx : x < 256) (l : a2 < 16) : a2 + x * 16 % 67108864 < 4096 := by omega
theorem zwi3 (a3 x : Nat) (hx : x < 256) (l : a3 < 1) : a3 < 1 := by omega
theorem zwi4 (a4 x : Nat) (hx : x < 256) (l : a4 < 1) : a4 < 1 := by omega
theorem zwad (a0 a1 a2 a3 a4 x : Nat) : nstep [a0, a1, a2, a3, a4] 8 x = [a0, a1, a2 + x * 4096 % 67108864, a3, a4] := rfl
theorem nval_8 (a0 a1 a2 a3 a4 x : Nat) (hx : x < 256) : v5 [a0, a1, a2 + x * 4096 % 67108864, a3, a4] = v5 [a0, a1, a2, a3, a4] + x * 18446744073709551616 := by
 simp only [v5, List.getD_cons_zero, List.getD_cons_succ]
 omega
theorem zwi5 (a0 x : Nat) (hx : x < 256) (l : a0 < 67108864) : a0 < 67108864 := by omega
theorem zwi6 (a1 x : Nat) (hx : x < 256) (l : a1 < 67108864) : a1 < 67108864 := by omega
theorem zwi7 (a2 x : Nat) (hx : x < 256) (l : a2 < 4096) : a2 + x * 4096 % 67108864 < 1048576 := by omega
theorem zwi8 (a3 x : Nat) (hx : x < 256) (l : a3 < 1) : a3 < 1 := by omega
theorem zwi9 (a4 x : Nat) (hx : x < 256) (l : a4 < 1) : a4 < 1 := by omega
theorem zwae (a0 a1 a2 a3 a4 x : Nat) : nstep [a0, a1, a2, a3, a4] 9 x = [a0, a1, a2 + x * 1048576 % 67108864, a3 + x / 64, a4] := rfl
theorem nval_9 (a0 a1 a2 a3 a4 x : Nat) (hx : x < 256) : v5 [a0, a1, a2 + x * 1048576 % 67108864, a3 + x / 64, a4] = v5 [a0, a1, a2, a3, a4] + x * 4722366482869645213696 := by
 simp only [v5, List.getD_cons_zero, List.getD_cons_succ]
 omega
theorem zwia (a0 x : Nat) (hx : x < 256) (l : a0 < 67108864) : a0 < 67108864 := by omega
theorem zwib (a1 x : Nat) (hx : x < 256) (l : a1 < 67108864) : a1 < 67108864 := by omega
theorem zwic (a2 x : Nat) (hx : x < 256) (l : a2 < 1048576) : a2 + x * 1048576 % 67108864 < 67108864 := by omega
theorem zwid (a3 x : Nat) (hx : x < 256) (l : a3 < 1) : a3 + x / 64 < 4 := by omega
theorem zwie (a4 x : Nat) (hx : x < 256) (l : a4 < 1) : a4 < 1 := by omega
theorem zwaf (a0 a1 a2 a3 a4 x : Nat) : nstep [a0, a1, a2, a3, a4] 10 x = [a0, a1, a2, a3 + x * 4 % 67108864, a4] := rfl
theorem zwif (a0 a1 a2 a3 a4 x : Nat) (hx : x < 256) : v5 [a0, a1, a2, a3 + x * 4 % 67108864, a4] = v5 [a0, a1, a2, a3, a4] + x * 1208925819614629174706176 := by
 simp only [v5, List.getD_cons_zero, List.getD_cons_succ]
 omega
theorem zwig (a0 x : Nat) (hx : x < 256) (l : a0 < 67108864) : a0 < 67108864 := by omega
theorem zwih (a1 x : Nat) (hx : x < 256) (l : a1 < 67108864) : a1 < 67108864 := by omega
theorem zwii (a2 x : Nat) (hx : x < 256) (l : a2 < 67108864) : a2 < 67108864 := by omega
theorem zwij (a3 x : Nat) (hx : x < 256) (l : a3 < 4) : a3 + x * 4 % 67108864 < 1024 := by omega
theorem zwik (a4 x : Nat) (hx : x < 256) (l : a4 < 1) : a4 < 1 := by omega
theorem zwag (a0 a1 a2 a3 a4 x : Nat) : nstep [a0, a1, a2, a3, a4] 11 x = [a0, a1, a2, a3 + x * 1024 % 67108864, a4] := rfl
theorem zwil (a0 a1 a2 a3 a4 x : Nat) (hx : x < 256) : v5 [a0, a1, a2, a3 + x * 1024 % 67108864, a4] = v5 [a0, a1, a2, a3, a4] + x * 309485009821345068724781056 := by
 simp only [v5, List.getD_cons_zero, List.getD_cons_succ]
 omega
theorem zwim (a0 x : Nat) (hx : x < 256) (l : a0 < 67108864) : a0 < 67108864 := by omega
theorem zwin (a1 x : Nat) (hx : x < 256) (l : a1 < 67108864) : a1 < 67108864 := by omega
theorem zwio (a2 x : Nat) (hx : x < 256) (l : a2 < 67108864) : a2 < 67108864 := by omega
theorem zwip (a3 x : Nat) (hx : x < 256) (l : a3 < 1024) : a3 + x * 1024 % 67108864 < 262144 := by omega
theorem zwiq (a4 x : Nat) (hx : x < 256) (l : a4 < 1) : a4 < 1 := by omega
theorem zwah (a0 a1 a2 a3 a4 x : Nat) : nstep [a0, a1, a2, a3, a4] 12 x = [a0, a1, a2, a3 + x * 262144 % 67108864, a4] := rfl
theorem zwir (a0 a1 a2 a3 a4 x : Nat) (hx : x < 256) : v5 [a0, a1, a2, a3 + x * 262144 % 67108864, a4] = v5 [a0, a1, a2, a3, a4] + x * 79228162514264337593543950336 := by
 simp only [v5, List.getD_cons_zero, List.getD_cons_succ]
 omega
theorem zwis (a0 x : Nat) (hx : x < 256) (l : a0 < 67108864) : a0 < 67108864 := by omega
theorem zwit (a1 x : Nat) (hx : x < 256) (l : a1 < 67108864) : a1 < 67108864 := by omega
theorem zwiu (a2 x : Nat) (hx : x < 256) (l : a2 < 67108864) : a2 < 67108864 := by omega
theorem zwiv (a3 x : Nat) (hx : x < 256) (l : a3 < 262144) : a3 + x * 262144 % 67108864 < 67108864 := by omega
theorem zwiw (a4 x : Nat) (hx : x < 256) (l : a4 < 1) : a4 < 1 := by omega
theorem zwai (a0 a1 a2 a3 a4 x : Nat) : nstep [a0, a1, a2, a3, a4] 13 x = [a0, a1, a2, a3, a4 + x * 1 % 67108864] := rfl
theorem zwix (a0 a1 a2 a3 a4 x : Nat) (hx : x < 256) : v5 [a0, a1, a2, a3, a4 + x * 1 % 67108864] = v5 [a0, a1, a2, a3, a4] + x * 20282409603651670423947251286016 := by
 simp only [v5, List.getD_cons_zero, List.getD_cons_succ]
 omega
theorem zwiy (a0 x : Nat) (hx : x < 256) (l : a0 < 67108864) : a0 < 67108864 := by omega
theorem zwiz (a1 x : Nat) (hx : x < 256) (l : a1 < 67108864) : a1 < 67108864 := by omega
theorem zwj0 (a2 x : Nat) (hx : x < 256) (l : a2 < 67108864) : a2 < 67108864 := by omega
theorem zwj1 (a3 x : Nat) (hx : x < 256) (l : a3 < 67108864) : a3 < 67108864 := by omega
theorem zwj2 (a4 x : Nat) (hx : x < 256) (l : a4 < 1) : a4 + x * 1 % 67108864 < 256 := by omega
theorem zwaj (a0 a1 a2 a3 a4 x : Nat) : nstep [a0, a1, a2, a3, a4] 14 x = [a0, a1, a2, a3, a4 + x * 256 % 67108864] := rfl
theorem zwj3 (a0 a1 a2 a3 a4 x : Nat) (hx : x < 256) : v5 [a0, a1, a2, a3, a4 + x * 256 % 67108864] = v5 [a0, a1, a2, a3, a4] + x * 5192296858534827628530496329220096 := by
 simp only [v5, List.getD_cons_zero, List.getD_cons_succ]
 omega
theorem zwj4 (a0 x : Nat) (hx : x < 256) (l : a0 < 67108864) : a0 < 67108864 := by omega
theorem zwj5 (a1 x : Nat) (hx : x < 256) (l : a1 < 67108864) : a1 < 67108864 := by omega
theorem zwj6 (a2 x : Nat) (hx : x < 256) (l : a2 < 67108864) : a2 < 67108864 := by omega
theorem zwj7 (a3 x : Nat) (hx : x < 256) (l : a3 < 67108864) : a3 < 67108864 := by omega
theorem zwj8 (a4 x : Nat) (hx : x < 256) (l : a4 < 256) : a4 + x * 256 % 67108864 < 65536 := by omega
theorem zwak (a0 a1 a2 a3 a4 x : Nat) : nstep [a0, a1, a2, a3, a4] 15 x = [a0, a1, a2, a3, a4 + x * 65536 % 67108864] := rfl
theorem zwj9 (a0 a1 a2 a3 a4 x : Nat) (hx : x < 256) : v5 [a0, a1, a2, a3, a4 + x * 65536 % 67108864] = v5 [a0, a1, a2, a3, a4] + x * 1329227995784915872903807060280344576 := by
 simp only [v5, List.getD_cons_zero, List.getD_cons_succ]
 omega
theorem zwja (a0 x : Nat) (hx : x < 256) (l : a0 < 67108864) : a0 < 67108864 := by omega
theorem zwjb (a1 x : Nat) (hx : x < 256) (l : a1 < 67108864) : a1 < 67108864 := by omega
theorem zwjc (a2 x : Nat) (hx : x < 256) (l : a2 < 67108864) : a2 < 67108864 := by omega
theorem zwjd (a3 x : Nat) (hx : x < 256) (l : a3 < 67108864) : a3 < 67108864 := by omega
theorem zwje (a4 x : Nat) (hx : x < 256) (l : a4 < 65536) : a4 + x * 65536 % 67108864 < 16777216 := by omega
theorem zwal (a0 a1 a2 a3 a4 x : Nat) : nstep [a0, a1, a2, a3, a4] 16 x = [a0, a1, a2, a3, a4 + x * 16777216 % 67108864] := rfl
theorem zwjf (a0 a1 a2 a3 a4 x : Nat) (hx : x ≤ 3) : v5 [a0, a1, a2, a3, a4 + x * 16777216 % 67108864] = v5 [a0, a1, a2, a3, a4] + x * 340282366920938463463374607431768211456 := by
 simp only [v5, List.getD_cons_zero, List.getD_cons_succ]
 omega
theorem zwjg (a0 x : Nat) (hx : x ≤ 3) (l : a0 < 67108864) : a0 < 67108864 := by omega
theorem zwjh (a1 x : Nat) (hx : x ≤ 3) (l : a1 < 67108864) : a1 < 67108864 := by omega
theorem zwji (a2 x : Nat) (hx : x ≤ 3) (l : a2 < 67108864) : a2 < 67108864 := by omega
theorem zwjj (a3 x : Nat) (hx : x ≤ 3) (l : a3 < 67108864) : a3 < 67108864 := by omega
theorem zwjk (a4 x : Nat) (hx : x ≤ 3) (l : a4 < 16777216) : a4 + x * 16777216 % 67108864 < 67108864 := by omega
theorem NInv.step {bs l : List Nat} {i : Nat} (h : NInv bs l i) (hi : i < 17) (hb : i < bs.length) (hx : bs.getD i 0 < 256) (h16 : i = 16 → bs.getD i 0 ≤ 3) : NInv bs (nstep l i (bs.getD i 0)) (i + 1) := by
 have hv := h.val
 have e : le (bs.take (i + 1)) = le (bs.take i) + bs.getD i 0 * 256 ^ i := by
  rw [List.take_add_one, List.getElem?_eq_getElem hb]
  simp only [Option.toList_some, zw4f]
  rw [List.length_take, Nat.min_eq_left (by omega)]
  simp [List.getD, List.getElem?_eq_getElem hb]
 generalize bs.getD i 0 = x at *
 rw [← hv] at e
 have l0 := h.low 0 (by omega); have l1 := h.low 1 (by omega); have l2 := h.low 2 (by omega); have l3 := h.low 3 (by omega); have l4 := h.low 4 (by omega)
 obtain ⟨a0, a1, a2, a3, a4, rfl⟩ := list5 h.len
 clear h hv
 rcases (by omega : i = 0 ∨ i = 1 ∨ i = 2 ∨ i = 3 ∨ i = 4 ∨ i = 5 ∨ i = 6 ∨ i = 7 ∨ i = 8 ∨ i = 9 ∨ i = 10 ∨ i = 11 ∨ i = 12 ∨ i = 13 ∨ i = 14 ∨ i = 15 ∨ i = 16) with rfl | rfl | rfl | rfl | rfl | rfl | rfl | rfl | rfl | rfl | rfl | rfl | rfl | rfl | rfl | rfl | rfl
 ·rw [zwa5]
  exact ⟨rfl, (nval_0 a0 a1 a2 a3 a4 x hx).trans e.symm, low5 (zwh1 a0 x hx l0) (zwh2 a1 x hx l1) (zwh3 a2 x hx l2) (zwh4 a3 x hx l3) (zwh5 a4 x hx l4)⟩
 ·rw [zwa6]
  exact ⟨rfl, (nval_1 a0 a1 a2 a3 a4 x hx).trans e.symm, low5 (zwh6 a0 x hx l0) (zwh7 a1 x hx l1) (zwh8 a2 x hx l2) (zwh9 a3 x hx l3) (zwha a4 x hx l4)⟩
 ·rw [zwa7]
  exact ⟨rfl, (nval_2 a0 a1 a2 a3 a4 x hx).trans e.symm, low5 (zwhb a0 x hx l0) (zwhc a1 x hx l1) (zwhd a2 x hx l2) (zwhe a3 x hx l3) (zwhf a4 x hx l4)⟩
 ·rw [zwa8]
  exact ⟨rfl, (nval_3 a0 a1 a2 a3 a4 x hx).trans e.symm, low5 (zwhg a0 x hx l0) (zwhh a1 x hx l1) (zwhi a2 x hx l2) (zwhj a3 x hx l3) (zwhk a4 x hx l4)⟩
 ·rw [zwa9]
  exact ⟨rfl, (nval_4 a0 a1 a2 a3 a4 x hx).trans e.symm, low5 (zwhl a0 x hx l0) (zwhm a1 x hx l1) (zwhn a2 x hx l2) (zwho a3 x hx l3) (zwhp a4 x hx l4)⟩
 ·rw [zwaa]
  exact ⟨rfl, (nval_5 a0 a1 a2 a3 a4 x hx).trans e.symm, low5 (zwhq a0 x hx l0) (zwhr a1 x hx l1) (zwhs a2 x hx l2) (zwht a3 x hx l3) (zwhu a4 x hx l4)⟩
 ·rw [zwab]
  exact ⟨rfl, (nval_6 a0 a1 a2 a3 a4 x hx).trans e.symm, low5 (zwhv a0 x hx l0) (zwhw a1 x hx l1) (zwhx a2 x hx l2) (zwhy a3 x hx l3) (zwhz a4 x hx l4)⟩
 ·rw [zwac]
  exact ⟨rfl, (nval_7 a0 a1 a2 a3 a4 x hx).trans e.symm, low5 (zwi0 a0 x hx l0) (zwi1 a1 x hx l1) (zwi2 a2 x hx l2) (zwi3 a3 x hx l3) (zwi4 a4 x hx l4)⟩
 ·rw [zwad]
  exact ⟨rfl, (nval_8 a0 a1 a2 a3 a4 x hx).trans e.symm, low5 (zwi5 a0 x hx l0) (zwi6 a1 x hx l1) (zwi7 a2 x hx l2) (zwi8 a3 x hx l3) (zwi9 a4 x hx l4)⟩
 ·rw [zwae]
  exact ⟨rfl, (nval_9 a0 a1 a2 a3 a4 x hx).trans e.symm, low5 (zwia a0 x hx l0) (zwib a1 x hx l1) (zwic a2 x hx l2) (zwid a3 x hx l3) (zwie a4 x hx l4)⟩
 ·rw [zwaf]
  exact ⟨rfl, (zwif a0 a1 a2 a3 a4 x hx).trans e.symm, low5 (zwig a0 x hx l0) (zwih a1 x hx l1) (zwii a2 x hx l2) (zwij a3 x hx l3) (zwik a4 x hx l4)⟩
 ·rw [zwag]
  exact ⟨rfl, (zwil a0 a1 a2 a3 a4 x hx).trans e.symm, low5 (zwim a0 x hx l0) (zwin a1 x hx l1) (zwio a2 x hx l2) (zwip a3 x hx l3) (zwiq a4 x hx l4)⟩
 ·rw [zwah]
  exact ⟨rfl, (zwir a0 a1 a2 a3 a4 x hx).trans e.symm, low5 (zwis a0 x hx l0) (zwit a1 x hx l1) (zwiu a2 x hx l2) (zwiv a3 x hx l3) (zwiw a4 x hx l4)⟩
 ·rw [zwai]
  exact ⟨rfl, (zwix a0 a1 a2 a3 a4 x hx).trans e.symm, low5 (zwiy a0 x hx l0) (zwiz a1 x hx l1) (zwj0 a2 x hx l2) (zwj1 a3 x hx l3) (zwj2 a4 x hx l4)⟩
 ·rw [zwaj]
  exact ⟨rfl, (zwj3 a0 a1 a2 a3 a4 x hx).trans e.symm, low5 (zwj4 a0 x hx l0) (zwj5 a1 x hx l1) (zwj6 a2 x hx l2) (zwj7 a3 x hx l3) (zwj8 a4 x hx l4)⟩
 ·rw [zwak]
  exact ⟨rfl, (zwj9 a0 a1 a2 a3 a4 x hx).trans e.symm, low5 (zwja a0 x hx l0) (zwjb a1 x hx l1) (zwjc a2 x hx l2) (zwjd a3 x hx l3) (zwje a4 x hx l4)⟩
 ·rw [zwal]
  exact ⟨rfl, (zwjf a0 a1 a2 a3 a4 x (h16 rfl)).trans e.symm, low5 (zwjg a0 x (h16 rfl) l0) (zwjh a1 x (h16 rfl) l1) (zwji a2 x (h16 rfl) l2) (zwjj a3 x (h16 rfl) l3) (zwjk a4 x (h16 rfl) l4)⟩
end Go.Proofs.YtajpblfinenmjaaGreatDoor.Poly

namespace Go.Proofs.YtajpblfinenmjaaGreatDoor.Poly

def rp : Nat → List Nat → List Nat × Nat
 | 0, l => (l, 0)
 | k + 1, l => ((rp k l).1.set k (((rp k l).1.getD k 0 + (rp k l).2) % 67108864), ((rp k l).1.getD k 0 + (rp k l).2) / 67108864)
def rnd (l : List Nat) : List Nat := (rp 5 l).1.set 0 ((rp 5 l).1.getD 0 0 + 5 * (rp 5 l).2)
theorem zw62 (a b c d e : Nat) : rnd [a, b, c, d, e] =
  [(a + 0) % 67108864 + 5 * ((e + (d + (c + (b + (a + 0) / 67108864) / 67108864) / 67108864) / 67108864) / 67108864),
  (b + (a + 0) / 67108864) % 67108864,
  (c + (b + (a + 0) / 67108864) / 67108864) % 67108864,
  (d + (c + (b + (a + 0) / 67108864) / 67108864) / 67108864) % 67108864,
  (e + (d + (c + (b + (a + 0) / 67108864) / 67108864) / 67108864) / 67108864) % 67108864] := rfl
theorem le5 {a b c d e B : Nat} (h0 : a ≤ B) (h1 : b ≤ B) (h2 : c ≤ B) (h3 : d ≤ B) (h4 : e ≤ B) : Le B [a, b, c, d, e] := ⟨rfl, fun j hj => by
 rcases (by omega : j = 0 ∨ j = 1 ∨ j = 2 ∨ j = 3 ∨ j = 4) with rfl | rfl | rfl | rfl | rfl <;> assumption⟩
theorem zwam {l : List Nat} (h : Bd 2 l) : Le 67108863 (rnd l) := by
 have h0 := h.two (Nat.le_refl _)
 have h1 := h.high (by omega) 1 (by omega) (by omega)
 have h2 := h.high (by omega) 2 (by omega) (by omega)
 have h3 := h.high (by omega) 3 (by omega) (by omega)
 have h4 := h.high (by omega) 4 (by omega) (by omega)
 obtain ⟨a, b, c, d, e, rfl⟩ := list5 h.len
 simp only [List.getD_cons_zero, List.getD_cons_succ] at h0 h1 h2 h3 h4
 rw [zw62]
 apply le5 <;> omega
theorem rnd_id {l : List Nat} (h : Le 67108863 l) : rnd l = l := by
 have h0 := h.2 0 (by omega); have h1 := h.2 1 (by omega); have h2 := h.2 2 (by omega); have h3 := h.2 3 (by omega); have h4 := h.2 4 (by omega)
 obtain ⟨a, b, c, d, e, rfl⟩ := list5 h.1
 simp only [List.getD_cons_zero, List.getD_cons_succ] at h0 h1 h2 h3 h4
 rw [zw62]
 rw [show (a + 0) / 67108864 = 0 by omega, show (b + 0) / 67108864 = 0 by omega, show (c + 0) / 67108864 = 0 by omega, show (d + 0) / 67108864 = 0 by omega, show (e + 0) / 67108864 = 0 by omega]
 simp only [Nat.add_zero, Nat.mul_zero]
 rw [Nat.mod_eq_of_lt (by omega), Nat.mod_eq_of_lt (by omega), Nat.mod_eq_of_lt (by omega), Nat.mod_eq_of_lt (by omega), Nat.mod_eq_of_lt (by omega)]
theorem zwjl {l : List Nat} (h : Bd 2 l) : Le 67108863 (rnd (rnd l)) := by rw [rnd_id (zwam h)]; exact zwam h

def rq : Nat → List Nat → List Nat
 | 0, l => l
 | k + 1, l => (((rq k l).set (k + 1) ((rq k l).getD (k + 1) 0 + (rq k l).getD k 0 / 67108864))).set k ((rq k l).getD k 0 % 67108864)
theorem rq_len (k : Nat) (l : List Nat) : (rq k l).length = l.length := by
 induction k with
 | zero => rfl
 | succ k ih => simp [rq, ih]
theorem rq_le {l : List Nat} (h : Le 1073741824 l) {k : Nat} (hk : k ≤ 4) : Le 2147483648 (rq k l) := by
 induction k with
 | zero => exact h.mono (by decide)
 | succ k ih =>
  refine ⟨by rw [rq_len]; exact h.1, fun j hj => ?_⟩
  have hl : (rq k l).length = 5 := by rw [rq_len]; exact h.1
  have hi := ih (by omega)
  have up : ∀ k : Nat, k ≤ 4 → ∀ j, k < j → (rq k l).getD j 0 = l.getD j 0 := by
   intro k
   induction k with
   | zero => intros; rfl
   | succ k ihk =>
    intro hk j hj
    rw [rq, zw2o (by omega), zw2o (by omega)]
    exact ihk (by omega) j (by omega)
  rw [rq]
  by_cases e1 : k = j
  ·subst e1
   rw [zw4e (by rw [List.length_set]; omega)]
   omega
  ·rw [zw2o e1]
   by_cases e2 : k + 1 = j
   ·subst e2
    rw [zw4e (by omega), up k (by omega) _ (by omega)]
    have := h.2 (k + 1) (by omega)
    have := hi.2 k (by omega)
    omega
   ·rw [zw2o e2]
    exact hi.2 j hj
theorem zwan (a b c d e : Nat) : rq 4 [a, b, c, d, e] =
  [a % 67108864, (b + a / 67108864) % 67108864, (c + (b + a / 67108864) / 67108864) % 67108864, (d + (c + (b + a / 67108864) / 67108864) / 67108864) % 67108864,
  e + (d + (c + (b + a / 67108864) / 67108864) / 67108864) / 67108864] := rfl
theorem zw4g {l : List Nat} (h : l.length = 5) : v5 (rq 4 l) = v5 l ∧ ∀ i, i < 4 → (rq 4 l).getD i 0 ≤ 67108863 := by
 obtain ⟨a, b, c, d, e, rfl⟩ := list5 h
 rw [zwan]
 constructor
 ·simp only [v5, List.getD_cons_zero, List.getD_cons_succ]
  omega
 ·intro i hi
  rcases (by omega : i = 0 ∨ i = 1 ∨ i = 2 ∨ i = 3) with rfl | rfl | rfl | rfl <;> simp only [List.getD_cons_zero, List.getD_cons_succ] <;> omega
theorem v5_top {l : List Nat} (h : Le 67108863 l) : v5 l < 1361129467683753853853498429727072845824 := by
 have h0 := h.2 0 (by omega); have h1 := h.2 1 (by omega); have h2 := h.2 2 (by omega); have h3 := h.2 3 (by omega); have h4 := h.2 4 (by omega)
 obtain ⟨a, b, c, d, e, rfl⟩ := list5 h.1
 simp only [List.getD_cons_zero, List.getD_cons_succ] at h0 h1 h2 h3 h4
 simp only [v5, List.getD_cons_zero, List.getD_cons_succ]
 omega
theorem zwao {l : List Nat} (h : Le 67108863 l) : v5 (rq 4 (l.set 0 (l.getD 0 0 + 5))) = v5 l + 5 := by
 rw [(zw4g (by rw [List.length_set]; exact h.1)).1]
 obtain ⟨a, b, c, d, e, rfl⟩ := list5 h.1
 rw [show [a, b, c, d, e].set 0 ([a, b, c, d, e].getD 0 0 + 5) = [a + 5, b, c, d, e] from rfl]
 simp only [v5, List.getD_cons_zero, List.getD_cons_succ]
 omega
theorem red_no {l : List Nat} (h : Le 67108863 l) (e : (rq 4 (l.set 0 (l.getD 0 0 + 5))).getD 4 0 / 67108864 = 0) : v5 l % pp = v5 l := by
 have hv := zwao h
 have hlow := (zw4g (l := l.set 0 (l.getD 0 0 + 5)) (by rw [List.length_set]; exact h.1)).2
 have hl : (rq 4 (l.set 0 (l.getD 0 0 + 5))).length = 5 := by rw [rq_len, List.length_set]; exact h.1
 generalize rq 4 (l.set 0 (l.getD 0 0 + 5)) = q at *
 have ht : v5 q < 1361129467683753853853498429727072845824 := v5_top ⟨hl, fun i hi => by
  by_cases i4 : i < 4
  ·exact hlow i i4
  ·obtain rfl : i = 4 := by omega
   omega⟩
 apply Nat.mod_eq_of_lt
 unfold pp
 omega
theorem zwjm {l : List Nat} (h : Le 67108863 l) (e : ¬ (rq 4 (l.set 0 (l.getD 0 0 + 5))).getD 4 0 / 67108864 = 0) :
  Le 67108863 ((rq 4 (l.set 0 (l.getD 0 0 + 5))).set 4 ((rq 4 (l.set 0 (l.getD 0 0 + 5))).getD 4 0 % 67108864)) ∧
  v5 l % pp = v5 ((rq 4 (l.set 0 (l.getD 0 0 + 5))).set 4 ((rq 4 (l.set 0 (l.getD 0 0 + 5))).getD 4 0 % 67108864)) := by
 have hv := zwao h
 have ht := v5_top h
 have hlow := (zw4g (l := l.set 0 (l.getD 0 0 + 5)) (by rw [List.length_set]; exact h.1)).2
 have hl : (rq 4 (l.set 0 (l.getD 0 0 + 5))).length = 5 := by rw [rq_len, List.length_set]; exact h.1
 generalize rq 4 (l.set 0 (l.getD 0 0 + 5)) = q at *
 have h0 := hlow 0 (by omega); have h1 := hlow 1 (by omega); have h2 := hlow 2 (by omega); have h3 := hlow 3 (by omega)
 obtain ⟨a, b, c, d, f, rfl⟩ := list5 hl
 simp only [List.getD_cons_zero, List.getD_cons_succ] at h0 h1 h2 h3 e
 rw [show [a, b, c, d, f].set 4 ([a, b, c, d, f].getD 4 0 % 67108864) = [a, b, c, d, f % 67108864] from rfl]
 constructor
 ·apply le5 <;> omega
 ·have hv2 : v5 [a, b, c, d, f % 67108864] + 1361129467683753853853498429727072845824 = v5 l + 5 := by
   rw [← hv]
   generalize v5 l = z at *
   simp only [v5, List.getD_cons_zero, List.getD_cons_succ] at hv ⊢
   omega
  generalize v5 [a, b, c, d, f % 67108864] = y at *
  generalize v5 l = z at *
  unfold pp
  omega
end Go.Proofs.YtajpblfinenmjaaGreatDoor.Poly

namespace Go.Proofs.YtajpblfinenmjaaGreatDoor.Poly

def acc (r : Nat) (v : Nat) (l : List UInt8) : Nat :=
 match l with
 | [] => v
 | x :: t => acc r ((v + le (((x :: t).take 16).map UInt8.toNat ++ [1])) * r % pp) ((x :: t).drop 16)
termination_by l.length
decreasing_by simp; omega
theorem zwap (r v : Nat) : acc r v [] = v := by rw [acc]
theorem zwaq (r v : Nat) {l : List UInt8} (h : l ≠ []) : acc r v l = acc r ((v + le ((l.take 16).map UInt8.toNat ++ [1])) * r % pp) (l.drop 16) := by
 match l, h with
 | x :: t, _ => rw [acc]

def outb (l : List Nat) (k : Nat) : Nat := l.getD (8 * k / 26) 0 / 2 ^ (8 * k % 26) + (if 18 < 8 * k % 26 then l.getD (8 * k / 26 + 1) 0 * 2 ^ (26 - 8 * k % 26) else 0)
theorem zwjn {l : List Nat} (h : l.length = 5) (hlow : ∀ i, i < 4 → l.getD i 0 ≤ 67108863) {k : Nat} (hk : k < 16) : outb l k % 256 = v5 l / 256 ^ k % 256 := by
 have h0 := hlow 0 (by omega); have h1 := hlow 1 (by omega); have h2 := hlow 2 (by omega); have h3 := hlow 3 (by omega)
 obtain ⟨a, b, c, d, e, rfl⟩ := list5 h
 simp only [List.getD_cons_zero, List.getD_cons_succ] at h0 h1 h2 h3
 clear hlow h
 rcases (by omega : k = 0 ∨ k = 1 ∨ k = 2 ∨ k = 3 ∨ k = 4 ∨ k = 5 ∨ k = 6 ∨ k = 7 ∨ k = 8 ∨ k = 9 ∨ k = 10 ∨ k = 11 ∨ k = 12 ∨ k = 13 ∨ k = 14 ∨ k = 15) with rfl | rfl | rfl | rfl | rfl | rfl | rfl | rfl | rfl | rfl | rfl | rfl | rfl | rfl | rfl | rfl
 ·show (a / 1 + 0) % 256 = v5 [a, b, c, d, e] / 1 % 256
  simp only [v5, List.getD_cons_zero, List.getD_cons_succ]; omega
 ·show (a / 256 + 0) % 256 = v5 [a, b, c, d, e] / 256 % 256
  simp only [v5, List.getD_cons_zero, List.getD_cons_succ]; omega
 ·show (a / 65536 + 0) % 256 = v5 [a, b, c, d, e] / 65536 % 256
  simp only [v5, List.getD_cons_zero, List.getD_cons_succ]; omega
 ·show (a / 16777216 + b * 4) % 256 = v5 [a, b, c, d, e] / 16777216 % 256
  simp only [v5, List.getD_cons_zero, List.getD_cons_succ]; omega
 ·show (b / 64 + 0) % 256 = v5 [a, b, c, d, e] / 4294967296 % 256
  simp only [v5, List.getD_cons_zero, List.getD_cons_succ]; omega
 ·show (b / 16384 + 0) % 256 = v5 [a, b, c, d, e] / 1099511627776 % 256
  simp only [v5, List.getD_cons_zero, List.getD_cons_succ]; omega
 ·show (b / 4194304 + c * 16) % 256 = v5 [a, b, c, d, e] / 281474976710656 % 256
  simp only [v5, List.getD_cons_zero, List.getD_cons_succ]; omega
 ·show (c / 16 + 0) % 256 = v5 [a, b, c, d, e] / 72057594037927936 % 256
  simp only [v5, List.getD_cons_zero, List.getD_cons_succ]; omega
 ·show (c / 4096 + 0) % 256 = v5 [a, b, c, d, e] / 18446744073709551616 % 256
  simp only [v5, List.getD_cons_zero, List.getD_cons_succ]; omega
 ·show (c / 1048576 + d * 64) % 256 = v5 [a, b, c, d, e] / 4722366482869645213696 % 256
  simp only [v5, List.getD_cons_zero, List.getD_cons_succ]; omega
 ·show (d / 4 + 0) % 256 = v5 [a, b, c, d, e] / 1208925819614629174706176 % 256
  simp only [v5, List.getD_cons_zero, List.getD_cons_succ]; omega
 ·show (d / 1024 + 0) % 256 = v5 [a, b, c, d, e] / 309485009821345068724781056 % 256
  simp only [v5, List.getD_cons_zero, List.getD_cons_succ]; omega
 ·show (d / 262144 + 0) % 256 = v5 [a, b, c, d, e] / 79228162514264337593543950336 % 256
  simp only [v5, List.getD_cons_zero, List.getD_cons_succ]; omega
 ·show (e / 1 + 0) % 256 = v5 [a, b, c, d, e] / 20282409603651670423947251286016 % 256
  simp only [v5, List.getD_cons_zero, List.getD_cons_succ]; omega
 ·show (e / 256 + 0) % 256 = v5 [a, b, c, d, e] / 5192296858534827628530496329220096 % 256
  simp only [v5, List.getD_cons_zero, List.getD_cons_succ]; omega
 ·show (e / 65536 + 0) % 256 = v5 [a, b, c, d, e] / 1329227995784915872903807060280344576 % 256
  simp only [v5, List.getD_cons_zero, List.getD_cons_succ]; omega
end Go.Proofs.YtajpblfinenmjaaGreatDoor.Poly
