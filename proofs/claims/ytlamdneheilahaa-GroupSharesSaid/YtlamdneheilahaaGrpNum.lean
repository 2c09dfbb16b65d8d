/- The laws of the small group on integers. -/
import Derived.Test.YtlamdneheilahaaGrp
namespace Go.Proofs.Ytlamdneheilahaa

theorem pw_mul (a d e : Int) (d0 : 0 ≤ d) (e0 : 0 ≤ e) : pw a d * pw a e % 4611686018427377339 = pw a (d + e) := by
  unfold pw
  rw [← Int.mul_emod, ← Int.pow_add]
  congr 2
  omega
theorem pw_pow (a s t : Int) (s0 : 0 ≤ s) (t0 : 0 ≤ t) : pw (pw a s) t = pw a (s * t) := by
  unfold pw
  rw [pow_emod, ← Int.pow_mul]
  congr 2
  obtain ⟨s, rfl⟩ := Int.eq_ofNat_of_zero_le s0
  obtain ⟨t, rfl⟩ := Int.eq_ofNat_of_zero_le t0
  rw [← Int.natCast_mul]
  rfl
theorem pw_comm (s t : Int) (s0 : 0 ≤ s) (t0 : 0 ≤ t) : pw (pw 4 s) t = pw (pw 4 t) s := by
  rw [pw_pow _ _ _ s0 t0, pw_pow _ _ _ t0 s0, Int.mul_comm]
theorem pw_one (t : Int) : pw 1 t = 1 := by
  unfold pw
  rw [Int.one_pow]
  rfl
theorem pw_q (s : Int) (s0 : 0 ≤ s) : pw (pw 4 s) 2305843009213688669 = 1 := by
  rw [pw_comm s _ s0 (by omega), pw_4_q, pw_one]
theorem pw_q2 (s t : Int) (s0 : 0 ≤ s) (t0 : 0 ≤ t) : pw (pw 4 s * pw 4 t % 4611686018427377339) 2305843009213688669 = 1 := by
  rw [pw_mul _ _ _ s0 t0]
  exact pw_q _ (by omega)
/-- Whose power q is 1 is 1 or an element. -/
theorem el_of (m : Int) (m0 : 0 ≤ m) (m1 : m < 4611686018427377339) (h : pw m 2305843009213688669 = 1) : m = 1 ∨ el m = true := by
  by_cases h0 : m = 0
  · subst h0
    exfalso
    have : pw 0 2305843009213688669 = 0 := pw_val 0 2305843009213688669 0 (by decide) (by decide +kernel)
    rw [this] at h
    exact absurd h (by decide)
  · by_cases h1 : m = 1
    · exact .inl h1
    · right
      unfold el
      rw [h]
      simp
      omega
theorem fermat_e (p e n : Nat) (hp : Num.Prime p) (he : e + 1 = p) (hn : ¬ p ∣ n) : n ^ e % p = 1 := by
  have h := Num.fermat hp hn
  rwa [show p - 1 = e from by omega] at h
theorem pw_fermat (x : Int) (h1 : 1 ≤ x) (h2 : x < 4611686018427377339) : pw x 4611686018427377338 = 1 := by
  obtain ⟨n, rfl⟩ := Int.eq_ofNat_of_zero_le (show 0 ≤ x by omega)
  obtain ⟨e, he⟩ : ∃ e : Nat, e + 1 = 4611686018427377339 := ⟨_, rfl⟩
  have hz := pw_nat n e
  rw [fermat_e _ e n Num.prime_P he (fun h => by have := Nat.le_of_dvd (by omega) h; omega)] at hz
  rw [show (4611686018427377338 : Int) = (e : Int) from by omega]
  exact hz
theorem pw_inv (x : Int) (h1 : 1 ≤ x) (h2 : x < 4611686018427377339) : x * pw x 4611686018427377337 % 4611686018427377339 = 1 := by
  have h := pw_mul x 1 4611686018427377337 (by omega) (by omega)
  have e : pw x 1 = x := by
    unfold pw
    rw [show (1 : Int).toNat = 1 from rfl, Int.pow_succ, Int.pow_zero, Int.one_mul]
    exact Int.emod_eq_of_lt (by omega) h2
  rw [e] at h
  rw [h]
  exact pw_fermat x h1 h2
/-- A power of 4 below the order is an element. -/
theorem el_pw (s : Int) (h1 : 1 ≤ s) (h2 : s < 2305843009213688669) : el (pw 4 s) = true := by
  rcases el_of (pw 4 s) (pw_nn 4 s).1 (pw_nn 4 s).2 (pw_q s (by omega)) with h | h
  · exfalso
    obtain ⟨n, rfl⟩ := Int.eq_ofNat_of_zero_le (show 0 ≤ s by omega)
    have a1 := pw_nat 4 n
    rw [show ((4 : Nat) : Int) = 4 from rfl, h] at a1
    obtain ⟨q, hq⟩ : ∃ q : Nat, q = 2305843009213688669 := ⟨_, rfl⟩
    have a2 := pw_nat 4 q
    have a3 := pw_4_q
    rw [show ((4 : Nat) : Int) = 4 from rfl, show (q : Int) = 2305843009213688669 from by omega, a3] at a2
    have hg := Num.pow_gcd 4611686018427377339 4 (by decide) n q (by omega) (by omega)
    have hp := Num.prime_Q
    rw [← hq] at hp
    have hc : Nat.gcd q n = 1 := hp.coprime fun h => by have := Nat.le_of_dvd (by omega) h; omega
    rw [Nat.gcd_comm, hc] at hg
    exact absurd hg (by decide)
  · exact h
end Go.Proofs.Ytlamdneheilahaa
