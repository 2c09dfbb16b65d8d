/- The group's plain law on integers, and the example of the chapter. -/
import Derived.Test.YtlamdneheilahaaElem
import Derived.Test.YtlamdneheilahaaNum
import Derived.BigQuiet
import Derived.Deep.QuietTactic
namespace Go.Proofs.Ytlamdneheilahaa
open Go.RowKit

theorem pw_nat (a e : Nat) : pw (a : Int) (e : Int) = ((a ^ e % 4611686018427377339 : Nat) : Int) := by
  unfold pw
  simp
theorem pw_val (a e v : Nat) (he : e < 2 ^ 64) (h : Num.pm 4611686018427377339 64 1 a e % 4611686018427377339 = v) : pw (a : Int) (e : Int) = (v : Int) := by
  rw [pw_nat]
  rw [Num.pm_eq _ 64 1 a e he, Nat.one_mul] at h
  rw [h]
theorem pw_4_1 : pw 4 1 = 4 := pw_val 4 1 4 (by decide) (by decide +kernel)
theorem pw_4_2 : pw 4 2 = 16 := pw_val 4 2 16 (by decide) (by decide +kernel)
theorem pw_4_q : pw 4 2305843009213688669 = 1 := pw_val 4 2305843009213688669 1 (by decide) (by decide +kernel)
theorem el_4 : el 4 = true := by
  unfold el
  rw [pw_4_q]
  decide
theorem el_1 : el 1 = false := by
  unfold el
  simp
theorem pw_nn (a e : Int) : 0 ≤ pw a e ∧ pw a e < 4611686018427377339 := by unfold pw; omega

set_option maxHeartbeats 1000000 in
theorem law13_awake (w : World) : Calls Try.prog 18 #[] w fun en w' => en = .returned (.bool true) ∧ ∃ n, w' = w.drewN n := by
  have s1 : sc 1 = true := rfl
  have s2 : sc 2 = true := rfl
  have e1 := pw_4_1
  have e2 := pw_4_2
  have e3 := el_4
  have e4 := el_1
  have c1 := group_public 1 (by decide) (by decide)
  have c2 := group_public 2 (by decide) (by decide)
  rw [s1, e1] at c1
  rw [s2, e2] at c2
  simp only [cond_true] at c1 c2
  have C1 := hd c1; have C2 := hd c2; clear c1 c2 s1 s2 e1 e2
  go_enter Try.func18, Try.ntmps18
  go_wp2_with fail
  refine (C1.out _).mono ?_
  rintro en w' ⟨rfl, m1, rfl⟩
  go_wp2_with fail
  refine (C2.out _).mono ?_
  rintro en w' ⟨rfl, m2, rfl⟩
  go_wp2_with fail
  refine (group_element 4 (by decide) (by decide) _).mono ?_
  rintro en w' ⟨rfl, m3, rfl⟩
  go_wp2_with fail
  refine (group_element 1 (by decide) (by decide) _).mono ?_
  rintro en w' ⟨rfl, m4, rfl⟩
  go_wp2_with fail
  go_ret
  exact ⟨rfl, _, rfl⟩
end Go.Proofs.Ytlamdneheilahaa
