/- Powers modulo the prime of the small group: the program's and the reference's; elements and secrets. -/
import Derived.Test.YtlamdneheilahaaMul
namespace Go.Proofs.Ytlamdneheilahaa
open Go.RowKit Go.Lib

theorem pow_emod (a m : Int) (n : Nat) : (a % m) ^ n % m = a ^ n % m := by
  induction n with
  | zero => simp
  | succ n ih => rw [Int.pow_succ, Int.pow_succ, Int.mul_emod, ih, Int.emod_emod_of_dvd _ (Int.dvd_refl m), ← Int.mul_emod]

/-- One round of squaring and multiplying, the exponent odd. -/
theorem pw_odd (r a T : Int) (e : Nat) (he : e % 2 = 1) (h : r * a ^ e % 4611686018427377339 = T) :
    r * a % 4611686018427377339 * (a * a % 4611686018427377339) ^ (e / 2) % 4611686018427377339 = T := by
  rw [← h]
  have e1 : e = 2 * (e / 2) + 1 := by omega
  have e2 : a ^ e = a * (a * a) ^ (e / 2) := by
    conv => lhs; rw [e1]
    rw [Int.pow_succ, Int.pow_mul, Int.mul_comm]
    congr 2
    simp [Int.pow_succ]
  rw [e2, Int.mul_emod, pow_emod, ← Int.mul_assoc]
  conv => rhs; rw [Int.mul_emod]
  simp [Int.emod_emod_of_dvd]
/-- The exponent even. -/
theorem pw_even (r a T : Int) (e : Nat) (he : e % 2 = 0) (h : r * a ^ e % 4611686018427377339 = T) :
    r * (a * a % 4611686018427377339) ^ (e / 2) % 4611686018427377339 = T := by
  rw [← h]
  have e1 : e = 2 * (e / 2) := by omega
  have e2 : a ^ e = (a * a) ^ (e / 2) := by
    conv => lhs; rw [e1]
    rw [Int.pow_mul]
    congr 1
    simp [Int.pow_succ]
  rw [e2, Int.mul_emod, pow_emod, ← Int.mul_emod]

/-- A power modulo the prime. -/
def pw (a e : Int) : Int := a ^ e.toNat % 4611686018427377339

set_option maxHeartbeats 1000000 in
theorem group_power (a e : Int) (a0 : 0 ≤ a) (a1 : a ≤ 18446744073709551615) (e0 : 0 ≤ e) (e1 : e ≤ 18446744073709551615) (w : World) :
    Calls Try.prog 21 #[.int .u64 a, .int .u64 e] w fun en w' => en = .returned (.int .u64 (pw a e)) ∧ ∃ n, w' = w.drewN n := by
  obtain ⟨E, rfl⟩ := Int.eq_ofNat_of_zero_le e0
  go_enter Try.func21, Try.ntmps21
  go_wp2_with fail
  go_loopw [0, 1, 5] (fun x o r wr => ∃ (u v : Int) (k n : Nat), x = .int .u64 u ∧ r = .int .u64 v ∧ o = .int .u64 k ∧ k ≤ E ∧ 0 ≤ u ∧ u ≤ 18446744073709551615 ∧ 0 ≤ v ∧ v < 4611686018427377339 ∧ wr = w.drewN n ∧ Hid (v * u ^ k % 4611686018427377339 = a ^ E % 4611686018427377339)) (fun _ o _ _ => (intOf o).toNat)
  case atStart => exact ⟨a, 1, E, 0, rfl, rfl, rfl, Nat.le_refl _, a0, a1, by omega, by omega, rfl, by unfold Hid; simp⟩
  case round =>
    obtain ⟨u, v, k, n, rfl, rfl, rfl, hk, u0, u1, v0, v1, rfl, hr⟩ := hrel
    have hbit := hd (and_one (k : Int) (by omega) (by omega))
    by_cases hz : 0 < k
    · by_cases hodd : k % 2 = 1
      · have ht : (bits BinOp.and IntKind.u64 (k : Int) 1 == 1) = true := by rw [hbit.out, beq_iff_eq]; omega
        have hst := hd (pw_odd v u _ k hodd hr.out)
        go_wp2_with fail
        refine (group_mul v u v0 (by omega) u0 u1 _).mono ?_
        rintro en w1 ⟨rfl, m1, rfl⟩
        go_wp2_with fail
        refine (group_mul u u u0 u1 u0 u1 _).mono ?_
        rintro en w1 ⟨rfl, m2, rfl⟩
        go_wp2_with fail
        go_roundw
        case rel => exact ⟨_, _, k / 2, _, rfl, rfl, by go_num, by omega, by omega, by omega, by omega, by omega, rfl, hst⟩
        case measure => simp [intOf]; omega
      · have ht : (bits BinOp.and IntKind.u64 (k : Int) 1 == 1) = false := by rw [hbit.out, beq_eq_false_iff_ne]; omega
        have hst := hd (pw_even v u _ k (by omega) hr.out)
        go_wp2_with fail
        refine (group_mul u u u0 u1 u0 u1 _).mono ?_
        rintro en w1 ⟨rfl, m2, rfl⟩
        go_wp2_with fail
        go_roundw
        case rel => exact ⟨_, _, k / 2, _, rfl, rfl, by go_num, by omega, by omega, by omega, v0, v1, rfl, hst⟩
        case measure => simp [intOf]; omega
    · obtain rfl : k = 0 := by omega
      have hv : Hid (v = pw a (E : Int)) := by
        have h1 := hr.out
        rw [Int.pow_zero, Int.mul_one, Int.emod_eq_of_lt v0 v1] at h1
        exact h1
      go_wp2_with fail
      go_ret
      exact ⟨by rw [← hv.out]; rfl, n, rfl⟩

set_option maxHeartbeats 1000000 in
theorem ref_power (a e : Int) (a0 : 0 ≤ a) (a1 : a ≤ 18446744073709551615) (e0 : 0 ≤ e) (e1 : e ≤ 18446744073709551615) (w : World) :
    Calls Try.prog 22 #[.int .u64 a, .int .u64 e] w fun en w' => en = .returned (.int .u64 (pw a e)) ∧ w = w' := by
  obtain ⟨E, rfl⟩ := Int.eq_ofNat_of_zero_le e0
  go_enter Try.func22, Try.ntmps22
  go_wp2_with fail
  go_loop [0, 1, 5] (fun x o r => ∃ (u v : Int) (k : Nat), x = .int .u64 u ∧ r = .int .u64 v ∧ o = .int .u64 k ∧ k ≤ E ∧ 0 ≤ u ∧ u ≤ 18446744073709551615 ∧ 0 ≤ v ∧ v < 4611686018427377339 ∧ Hid (v * u ^ k % 4611686018427377339 = a ^ E % 4611686018427377339)) (fun _ o _ => (intOf o).toNat)
  case atStart => exact ⟨a % 4611686018427377339, 1, E, rfl, rfl, rfl, Nat.le_refl _, by omega, by omega, by omega, by omega, by unfold Hid; rw [Int.one_mul, pow_emod]⟩
  case round =>
    obtain ⟨u, v, k, rfl, rfl, rfl, hk, u0, u1, v0, v1, hr⟩ := hrel
    have hbit := hd (and_one (k : Int) (by omega) (by omega))
    by_cases hz : 0 < k
    · by_cases hodd : k % 2 = 1
      · have ht : (bits BinOp.and IntKind.u64 (k : Int) 1 == 1) = true := by rw [hbit.out, beq_iff_eq]; omega
        have hst := hd (pw_odd v u _ k hodd hr.out)
        go_wp2_with fail
        refine (ref_mul v u v0 (by omega) u0 u1 _).mono ?_
        rintro en w1 ⟨rfl, rfl⟩
        go_wp2_with fail
        refine (ref_mul u u u0 u1 u0 u1 _).mono ?_
        rintro en w1 ⟨rfl, rfl⟩
        go_wp2_with fail
        go_round
        case rel => exact ⟨_, _, k / 2, rfl, rfl, by go_num, by omega, by omega, by omega, by omega, by omega, hst⟩
        case measure => simp [intOf]; omega
      · have ht : (bits BinOp.and IntKind.u64 (k : Int) 1 == 1) = false := by rw [hbit.out, beq_eq_false_iff_ne]; omega
        have hst := hd (pw_even v u _ k (by omega) hr.out)
        go_wp2_with fail
        refine (ref_mul u u u0 u1 u0 u1 _).mono ?_
        rintro en w1 ⟨rfl, rfl⟩
        go_wp2_with fail
        go_round
        case rel => exact ⟨_, _, k / 2, rfl, rfl, by go_num, by omega, by omega, by omega, v0, v1, hst⟩
        case measure => simp [intOf]; omega
    · obtain rfl : k = 0 := by omega
      have hv : Hid (v = pw a (E : Int)) := by
        have h1 := hr.out
        rw [Int.pow_zero, Int.mul_one, Int.emod_eq_of_lt v0 v1] at h1
        exact h1
      go_wp2_with fail
      go_ret
      exact ⟨by rw [← hv.out]; rfl, rfl⟩
end Go.Proofs.Ytlamdneheilahaa
