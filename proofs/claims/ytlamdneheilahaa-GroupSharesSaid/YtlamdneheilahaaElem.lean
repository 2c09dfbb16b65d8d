/- Elements, secrets, public numbers of the small group. -/
import Derived.Test.YtlamdneheilahaaPow
import Derived.Test.YtlamdneheilahaaWords
namespace Go.Proofs.Ytlamdneheilahaa
open Go.RowKit

/-- An element of the group. -/
def el (a : Int) : Bool := decide (2 ≤ a) && decide (a < 4611686018427377339) && (pw a 2305843009213688669 == 1)
/-- A secret of the group. -/
def sc (a : Int) : Bool := decide (1 ≤ a) && decide (a < 2305843009213688669)

section
variable (a : Int) (a0 : 0 ≤ a) (a1 : a ≤ 18446744073709551615) (w : World)
include a0 a1
theorem group_element : Calls Try.prog 23 #[.int .u64 a] w fun en w' => en = .returned (.bool (el a)) ∧ ∃ n, w' = w.drewN n := by
  by_cases h1 : 2 ≤ a
  · by_cases h2 : a < 4611686018427377339
    · have fin : Hid ((pw a 2305843009213688669 == 1) = el a) := by unfold Hid el; simp [h1, h2]
      go_enter Try.func23, Try.ntmps23
      go_wp2_with (go_at_call 21; refine (group_power a 2305843009213688669 a0 a1 (by omega) (by omega) _).mono ?_; rintro en w1 ⟨rfl, m1, rfl⟩)
      go_ret
      exact ⟨ret_b fin.out, m1, rfl⟩
    · have fin : Hid (false = el a) := by unfold Hid el; simp [h2]
      go_enter Try.func23, Try.ntmps23
      go_wp2_with fail
      go_ret
      exact ⟨ret_b fin.out, 0, rfl⟩
  · have fin : Hid (false = el a) := by unfold Hid el; simp [h1]
    go_enter Try.func23, Try.ntmps23
    go_wp2_with fail
    go_ret
    exact ⟨ret_b fin.out, 0, rfl⟩
theorem ref_element : Calls Try.prog 24 #[.int .u64 a] w fun en w' => en = .returned (.bool (el a)) ∧ w = w' := by
  by_cases h1 : 2 ≤ a
  · by_cases h2 : a < 4611686018427377339
    · have fin : Hid ((pw a 2305843009213688669 == 1) = el a) := by unfold Hid el; simp [h1, h2]
      go_enter Try.func24, Try.ntmps24
      go_wp2_with (go_at_call 22; refine (ref_power a 2305843009213688669 a0 a1 (by omega) (by omega) _).mono ?_; rintro en w1 ⟨rfl, rfl⟩)
      go_ret
      exact ⟨ret_b fin.out, rfl⟩
    · have fin : Hid (false = el a) := by unfold Hid el; simp [h2]
      go_enter Try.func24, Try.ntmps24
      go_wp2_with fail
      go_ret
      exact ⟨ret_b fin.out, rfl⟩
  · have fin : Hid (false = el a) := by unfold Hid el; simp [h1]
    go_enter Try.func24, Try.ntmps24
    go_wp2_with fail
    go_ret
    exact ⟨ret_b fin.out, rfl⟩
omit a0 a1 in
theorem group_valid : Calls Try.prog 49 #[.int .u64 a] w fun en w' => en = .returned (.bool (sc a)) ∧ w = w' := by
  by_cases h1 : 1 ≤ a <;> by_cases h2 : a < 2305843009213688669
  all_goals
    have fin : Hid ((decide (1 ≤ a) && decide (a < 2305843009213688669)) = sc a) := rfl
    go_enter Try.func49, Try.ntmps49
    go_wp2_with fail
    go_ret
    exact ⟨ret_b (by rw [← fin.out]; simp [h1, h2]), rfl⟩
omit a0 a1 in
theorem ref_secret : Calls Try.prog 50 #[.int .u64 a] w fun en w' => en = .returned (.bool (sc a)) ∧ w = w' := by
  by_cases h1 : 1 ≤ a <;> by_cases h2 : a < 2305843009213688669
  all_goals
    have fin : Hid ((decide (1 ≤ a) && decide (a < 2305843009213688669)) = sc a) := rfl
    go_enter Try.func50, Try.ntmps50
    go_wp2_with fail
    go_ret
    exact ⟨ret_b (by rw [← fin.out]; simp [h1, h2]), rfl⟩
/-- The public number of a secret, or 0 and the error. -/
theorem group_public : Calls Try.prog 26 #[.int .u64 a] w fun en w' =>
    en = .returned (.tuple #[.int .u64 (bif sc a then pw 4 a else 0), .int .i64 (bif sc a then 0 else 13)]) ∧ ∃ n, w' = w.drewN n := by
  cases hs : sc a
  · go_enter Try.func26, Try.ntmps26
    go_wp2_with (go_at_call 49; refine (group_valid a _).mono ?_; rintro en w1 ⟨rfl, rfl⟩)
    go_ret2
    exact ⟨rfl, 0, rfl⟩
  · go_enter Try.func26, Try.ntmps26
    go_wp2_with (first | (go_at_call 49; refine (group_valid a _).mono ?_; rintro en w1 ⟨rfl, rfl⟩) | (go_at_call 21; refine (group_power 4 a (by omega) (by omega) a0 a1 _).mono ?_; rintro en w1 ⟨rfl, m1, rfl⟩))
    go_ret2
    exact ⟨rfl, m1, rfl⟩
theorem ref_public : Calls Try.prog 28 #[.int .u64 a] w fun en w' =>
    en = .returned (.tuple #[.int .u64 (bif sc a then pw 4 a else 0), .int .i64 (bif sc a then 0 else 13)]) ∧ w = w' := by
  cases hs : sc a
  · go_enter Try.func28, Try.ntmps28
    go_wp2_with (go_at_call 50; refine (ref_secret a _).mono ?_; rintro en w1 ⟨rfl, rfl⟩)
    go_ret2
    exact ⟨rfl, rfl⟩
  · go_enter Try.func28, Try.ntmps28
    go_wp2_with (first | (go_at_call 50; refine (ref_secret a _).mono ?_; rintro en w1 ⟨rfl, rfl⟩) | (go_at_call 22; refine (ref_power 4 a (by omega) (by omega) a0 a1 _).mono ?_; rintro en w1 ⟨rfl, rfl⟩))
    go_ret2
    exact ⟨rfl, rfl⟩
end
end Go.Proofs.Ytlamdneheilahaa
