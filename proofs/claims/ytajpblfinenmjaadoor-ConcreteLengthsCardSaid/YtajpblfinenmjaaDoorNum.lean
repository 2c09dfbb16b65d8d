/- Plain arithmetic: powers by squaring, prime numbers, Fermat's little theorem, the two primes of the group. No program is in sight. -/
import Init
set_option linter.unusedVariables false
set_option linter.unusedSimpArgs false
namespace Go.Proofs.YtajpblfinenmjaaDoor.Num

/-- r * a^e modulo m, by squaring; at most f rounds. -/
def pm (m : Nat) : Nat → Nat → Nat → Nat → Nat
  | 0, r, _, _ => r
  | f + 1, r, a, e => if e = 0 then r else pm m f (if e % 2 = 1 then r * a % m else r) (a * a % m) (e / 2)

theorem pow_mod' (a m n : Nat) : (a % m) ^ n % m = a ^ n % m := (Nat.pow_mod a n m).symm

theorem pm_eq (m : Nat) : ∀ f r a e, e < 2 ^ f → pm m f r a e % m = r * a ^ e % m
  | 0, r, a, e, h => by
    obtain rfl : e = 0 := by simpa using h
    simp [pm]
  | f + 1, r, a, e, h => by
    unfold pm
    by_cases h0 : e = 0
    · subst h0; simp
    · rw [if_neg h0]
      have he : e / 2 < 2 ^ f := by rw [Nat.pow_succ] at h; omega
      rw [pm_eq m f _ _ _ he]
      by_cases h1 : e % 2 = 1
      · rw [if_pos h1]
        have e2 : a ^ e = a * (a * a) ^ (e / 2) := by
          conv => lhs; rw [show e = 2 * (e / 2) + 1 from by omega]
          rw [Nat.pow_succ, Nat.pow_mul, Nat.mul_comm, Nat.pow_two]
        rw [Nat.mul_mod, pow_mod', Nat.mod_mod, ← Nat.mul_mod, e2, Nat.mul_assoc]
      · rw [if_neg h1]
        have e2 : a ^ e = (a * a) ^ (e / 2) := by
          conv => lhs; rw [show e = 2 * (e / 2) from by omega]
          rw [Nat.pow_mul, Nat.pow_two]
        rw [Nat.mul_mod, pow_mod', ← Nat.mul_mod, e2]
theorem pow_of_pm (m f a e v : Nat) (h : e < 2 ^ f) (hv : pm m f 1 a e = v) : a ^ e % m = v % m := by
  rw [← hv, pm_eq m f 1 a e h, Nat.one_mul]

/-- A prime number. -/
def Prime (p : Nat) : Prop := 2 ≤ p ∧ ∀ d, d ∣ p → d = 1 ∨ d = p

theorem Prime.coprime {p a : Nat} (hp : Prime p) (h : ¬ p ∣ a) : Nat.Coprime p a := by
  rcases hp.2 (Nat.gcd p a) (Nat.gcd_dvd_left p a) with h1 | h1
  · exact h1
  · exact absurd (h1 ▸ Nat.gcd_dvd_right p a) h
theorem Prime.dvd_mul {p a b : Nat} (hp : Prime p) (h : p ∣ a * b) : p ∣ a ∨ p ∣ b := by
  by_cases ha : p ∣ a
  · exact .inl ha
  · exact .inr ((hp.coprime ha).dvd_of_dvd_mul_left h)

/-- Every number from 2 on has a prime divisor. -/
theorem prime_dvd (n : Nat) (h : 2 ≤ n) : ∃ p, Prime p ∧ p ∣ n := by
  induction n using Nat.strongRecOn with
  | _ n ih =>
    by_cases hp : Prime n
    · exact ⟨n, hp, Nat.dvd_refl n⟩
    · have : ¬ ∀ d, d ∣ n → d = 1 ∨ d = n := fun hd => hp ⟨h, hd⟩
      obtain ⟨d, hd⟩ := Classical.not_forall.1 this
      have hdn : d ∣ n := Classical.byContradiction fun hn => hd fun hx => absurd hx hn
      have h1 : d ≠ 1 := fun e => hd fun _ => .inl e
      have h2 : d ≠ n := fun e => hd fun _ => .inr e
      have hle := Nat.le_of_dvd (by omega) hdn
      have h0 : d ≠ 0 := fun e => by subst e; have := Nat.eq_zero_of_zero_dvd hdn; omega
      obtain ⟨p, hp', hpd⟩ := ih d (by omega) (by omega)
      exact ⟨p, hp', Nat.dvd_trans hpd hdn⟩

/-! Fermat: by the multiples of a, each below p once. -/
/-- The product of f over a list. -/
def prod : List Nat → Nat
  | [] => 1
  | x :: l => x * prod l
theorem prod_perm {l r : List Nat} (h : l.Perm r) : prod l = prod r := by
  induction h with
  | nil => rfl
  | cons x _ ih => simp [prod, ih]
  | swap x y l => simp [prod, Nat.mul_left_comm]
  | trans _ _ ih1 ih2 => exact ih1.trans ih2
theorem prod_map_mod (m a : Nat) (l : List Nat) : prod (l.map fun x => a * x % m) % m = a ^ l.length * prod l % m := by
  induction l with
  | nil => simp [prod]
  | cons x l ih =>
    simp only [List.map_cons, prod, List.length_cons]
    rw [Nat.mul_mod, ih, Nat.mod_mod, ← Nat.mul_mod]
    congr 1
    rw [Nat.pow_succ]
    simp [Nat.mul_assoc, Nat.mul_left_comm, Nat.mul_comm]
theorem prime_prod {p : Nat} (hp : Prime p) : ∀ l : List Nat, (∀ x ∈ l, ¬ p ∣ x) → ¬ p ∣ prod l
  | [], _, h => by have := Nat.le_of_dvd (by decide) h; have := hp.1; simp [prod] at *; omega
  | x :: l, hl, h => by
    rcases hp.dvd_mul h with h1 | h1
    · exact hl x (by simp) h1
    · exact prime_prod hp l (fun y hy => hl y (by simp [hy])) h1

/-- A list without repetition whose elements lie in another one of the same length is a permutation of it. -/
theorem perm_of_sub {l r : List Nat} (hl : l.Nodup) (hs : ∀ x ∈ l, x ∈ r) (hlen : r.length ≤ l.length) : l.Perm r := by
  induction l generalizing r with
  | nil => have : r = [] := List.eq_nil_of_length_eq_zero (by simpa using hlen); subst this; exact .nil
  | cons x l ih =>
    have hx : x ∈ r := hs x (by simp)
    have hp := List.perm_cons_erase hx
    have hnd := List.nodup_cons.1 hl
    refine .trans (.cons x (ih hnd.2 (fun y hy => ?_) ?_)) hp.symm
    · have : y ∈ x :: r.erase x := hp.subset (hs y (by simp [hy]))
      rcases List.mem_cons.1 this with rfl | h
      · exact absurd hy hnd.1
      · exact h
    · have := hp.length_eq; simp at this hlen; omega

theorem fermat {p a : Nat} (hp : Prime p) (ha : ¬ p ∣ a) : a ^ (p - 1) % p = 1 := by
  have h2 := hp.1
  have hmem : ∀ x, x ∈ List.range' 1 (p - 1) ↔ 1 ≤ x ∧ x < p := by intro x; rw [List.mem_range'_1]; omega
  have hnot : ∀ x, 1 ≤ x → x < p → ¬ p ∣ x := fun x h1 h3 h => by have := Nat.le_of_dvd (by omega) h; omega
  have hnd : ((List.range' 1 (p - 1)).map fun x => a * x % p).Nodup := by
    refine List.pairwise_map.2 ((List.pairwise_lt_range' (s := 1) (n := p - 1)).imp_of_mem fun {x y} hx hy hlt he => ?_)
    have hx := (hmem x).1 hx
    have hy := (hmem y).1 hy
    have h := Nat.sub_mod_eq_zero_of_mod_eq he.symm
    rw [← Nat.mul_sub] at h
    rcases hp.dvd_mul (Nat.dvd_of_mod_eq_zero h) with h | h
    · exact ha h
    · exact hnot _ (by omega) (by omega) h
  have hperm := perm_of_sub (r := List.range' 1 (p - 1)) hnd (fun y hy => by
    obtain ⟨x, hx, rfl⟩ := List.mem_map.1 hy
    have hx := (hmem x).1 hx
    refine (hmem _).2 ⟨?_, Nat.mod_lt _ (by omega)⟩
    rcases Nat.eq_zero_or_pos (a * x % p) with h0 | h0
    · rcases hp.dvd_mul (Nat.dvd_of_mod_eq_zero h0) with h | h
      · exact absurd h ha
      · exact absurd h (hnot x hx.1 hx.2)
    · exact h0) (by simp)
  have hm := prod_map_mod p a (List.range' 1 (p - 1))
  rw [prod_perm hperm, List.length_range'] at hm
  have hr : ¬ p ∣ prod (List.range' 1 (p - 1)) := prime_prod hp _ fun x hx => hnot x ((hmem x).1 hx).1 ((hmem x).1 hx).2
  generalize prod (List.range' 1 (p - 1)) = R at hm hr
  have hpos : 0 < a ^ (p - 1) := Nat.pow_pos (Nat.pos_of_ne_zero fun h0 => ha (by rw [h0]; exact Nat.dvd_zero p))
  have h := Nat.sub_mod_eq_zero_of_mod_eq hm.symm
  have e : a ^ (p - 1) * R - R = (a ^ (p - 1) - 1) * R := by rw [Nat.sub_mul, Nat.one_mul]
  rw [e] at h
  rcases hp.dvd_mul (Nat.dvd_of_mod_eq_zero h) with h1 | h1
  · obtain ⟨k, hk⟩ := h1
    have : a ^ (p - 1) = 1 + p * k := by omega
    rw [this, Nat.add_mul_mod_self_left, Nat.mod_eq_of_lt (by omega)]
  · exact absurd h1 hr

/-- If b^x = 1 and b^y = 1 then b to the greatest common divisor is 1. -/
theorem pow_gcd (s b : Nat) (hs : 2 ≤ s) : ∀ x y, b ^ x % s = 1 → b ^ y % s = 1 → b ^ Nat.gcd x y % s = 1 := by
  intro x
  induction x using Nat.strongRecOn with
  | _ x ih =>
    intro y hx hy
    rcases Nat.eq_zero_or_pos x with h0 | h0
    · subst h0; rw [Nat.gcd_zero_left]; exact hy
    · rw [Nat.gcd_rec]
      refine ih (y % x) (Nat.mod_lt _ h0) x ?_ hx
      have e : b ^ y = (b ^ x) ^ (y / x) * b ^ (y % x) := by rw [← Nat.pow_mul, ← Nat.pow_add, Nat.div_add_mod]
      rw [e, Nat.mul_mod, Nat.pow_mod, hx, Nat.one_pow, Nat.mod_eq_of_lt (show 1 < s by omega), Nat.one_mul, Nat.mod_mod] at hy
      exact hy

/-- A large prime r below n whose power test holds makes n prime. -/
theorem pock {n r a : Nat} (hr : Prime r) (hn : 2 ≤ n) (hdiv : r * ((n - 1) / r) = n - 1) (hbig : n < (r + 1) * (r + 1))
    (h1 : a ^ (n - 1) % n = 1) (h2 : Nat.gcd (a ^ ((n - 1) / r) % n + (n - 1)) n = 1) : Prime n := by
  have key : ∀ s, Prime s → s ∣ n → r + 1 ≤ s := by
    intro s hs hsn
    have hs2 := hs.1
    have hb : (a ^ ((n - 1) / r)) ^ r % s = 1 := by
      rw [← Nat.pow_mul, Nat.mul_comm, hdiv]
      have := Nat.mod_mod_of_dvd (a ^ (n - 1)) hsn
      rw [h1, Nat.mod_eq_of_lt (show 1 < s by omega)] at this
      exact this.symm
    have hnd : ¬ s ∣ a ^ ((n - 1) / r) := fun h => by
      have h3 := Nat.dvd_trans h (Nat.dvd_refl _)
      have h4 : s ∣ (a ^ ((n - 1) / r)) ^ r := by
        generalize a ^ ((n - 1) / r) = x at h3
        have := hr.1
        obtain ⟨q, hq⟩ : ∃ q, r = q + 1 := ⟨r - 1, by omega⟩
        rw [hq, Nat.pow_succ]
        exact Nat.dvd_trans h3 (Nat.dvd_mul_left _ _)
      rw [Nat.mod_eq_zero_of_dvd h4] at hb
      omega
    have hf := fermat hs hnd
    have hg := pow_gcd s _ hs2 _ _ hb hf
    rcases hr.2 _ (Nat.gcd_dvd_left r (s - 1)) with h | h
    · exfalso
      rw [h, Nat.pow_one] at hg
      have h5 : s ∣ a ^ ((n - 1) / r) % n + (n - 1) := by
        obtain ⟨k, hk⟩ := hsn
        have h6 := Nat.mod_mod_of_dvd (a ^ ((n - 1) / r)) (show s ∣ n from ⟨k, hk⟩)
        rw [hg] at h6
        generalize a ^ ((n - 1) / r) % n = B at h6 ⊢
        refine Nat.dvd_of_mod_eq_zero ?_
        have h7 := Nat.div_add_mod B s
        rw [h6] at h7
        have : B + (n - 1) = s * (B / s + k) := by rw [Nat.mul_add, ← hk]; omega
        rw [this, Nat.mul_mod_right]
      have h8 := Nat.dvd_gcd h5 hsn
      rw [h2] at h8
      have := Nat.le_of_dvd (by decide) h8
      omega
    · have h9 : r ∣ s - 1 := by rw [← h]; exact Nat.gcd_dvd_right r (s - 1)
      have := Nat.le_of_dvd (by omega) h9
      omega
  refine ⟨hn, fun d hd => ?_⟩
  by_cases e1 : d = 1
  · exact .inl e1
  · by_cases e2 : d = n
    · exact .inr e2
    · exfalso
      obtain ⟨e, he⟩ := hd
      have hd0 : d ≠ 0 := fun h => by subst h; omega
      have he0 : e ≠ 0 := fun h => by subst h; omega
      have he1 : e ≠ 1 := fun h => by subst h; omega
      obtain ⟨s, hs, hsd⟩ := prime_dvd d (by omega)
      obtain ⟨u, hu, hue⟩ := prime_dvd e (by omega)
      have k1 := key s hs (Nat.dvd_trans hsd ⟨e, he⟩)
      have k2 := key u hu (Nat.dvd_trans hue ⟨d, by rw [he, Nat.mul_comm]⟩)
      have l1 := Nat.le_of_dvd (by omega) hsd
      have l2 := Nat.le_of_dvd (by omega) hue
      have := Nat.mul_le_mul (show r + 1 ≤ d by omega) (show r + 1 ≤ e by omega)
      omega

/-- No divisor from 2 on below the root: prime. -/
theorem prime_of_trial (n k : Nat) (hn : 2 ≤ n) (hk : n < k * k) (h : (List.range k).all (fun d => decide (d < 2) || !(n % d == 0)) = true) : Prime n := by
  have key : ∀ s, 2 ≤ s → s ∣ n → k ≤ s := by
    intro s h2 hs
    rcases Nat.lt_or_ge s k with hlt | hge
    · have := List.all_eq_true.1 h s (List.mem_range.2 hlt)
      simp [Nat.mod_eq_zero_of_dvd hs] at this
      omega
    · exact hge
  refine ⟨hn, fun d hd => ?_⟩
  by_cases e1 : d = 1
  · exact .inl e1
  · by_cases e2 : d = n
    · exact .inr e2
    · exfalso
      obtain ⟨e, he⟩ := hd
      have hd0 : d ≠ 0 := fun h => by subst h; omega
      have he0 : e ≠ 0 := fun h => by subst h; omega
      have he1 : e ≠ 1 := fun h => by subst h; omega
      have k1 := key d (by omega) ⟨e, he⟩
      have k2 := key e (by omega) ⟨d, by rw [he, Nat.mul_comm]⟩
      have := Nat.mul_le_mul k1 k2
      omega

theorem prime_0 : Prime 7930907 := prime_of_trial 7930907 2817 (by decide) (by decide) (by decide +kernel)
/-- The same, the powers computed. -/
theorem pock_pm {n r a : Nat} (hr : Prime r) (hn : 2 ≤ n) (hdiv : r * ((n - 1) / r) = n - 1) (hbig : n < (r + 1) * (r + 1)) (h64 : n < 2 ^ 64)
    (h1 : pm n 64 1 a (n - 1) % n = 1) (h2 : Nat.gcd (pm n 64 1 a ((n - 1) / r) % n + (n - 1)) n = 1) : Prime n :=
  pock hr hn hdiv hbig (by rw [pm_eq n 64 1 a (n - 1) (by omega), Nat.one_mul] at h1; exact h1)
    (by
      rw [pm_eq n 64 1 a ((n - 1) / r) (Nat.lt_of_le_of_lt (Nat.div_le_self _ _) (by omega)), Nat.one_mul] at h2
      exact h2)
theorem prime_1 : Prime 11864636873 := pock_pm (a := 3) prime_0 (by decide) (by decide) (by decide) (by decide) (by decide +kernel) (by decide +kernel)
theorem prime_2 : Prime 1732236983459 := pock_pm (a := 3) prime_1 (by decide) (by decide) (by decide) (by decide) (by decide +kernel) (by decide +kernel)
theorem prime_3 : Prime 249442125618097 := pock_pm (a := 3) prime_2 (by decide) (by decide) (by decide) (by decide) (by decide +kernel) (by decide +kernel)
theorem prime_Q : Prime 2305843009213688669 := pock_pm (a := 3) prime_3 (by decide) (by decide) (by decide) (by decide) (by decide +kernel) (by decide +kernel)
theorem prime_P : Prime 4611686018427377339 := pock_pm (a := 3) prime_Q (by decide) (by decide) (by decide) (by decide) (by decide +kernel) (by decide +kernel)
end Go.Proofs.YtajpblfinenmjaaDoor.Num
