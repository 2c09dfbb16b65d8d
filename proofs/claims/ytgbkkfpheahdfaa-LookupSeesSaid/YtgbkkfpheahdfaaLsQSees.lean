/- Plain: what the program and the document see of any bytes is the same. -/
import Derived.Test.YtgbkkfpheahdfaaLsQSeeEq
set_option linter.unusedVariables false
set_option linter.unusedSimpArgs false
namespace Go.Proofs.Ytgbkkfpheahdfaa.Pl
open Go
section
variable (N : Nat) (hN : 4611686018427387904 ≤ N) {b : List UInt8} (hl : b.length ≤ 9223372036854775807)
include hN hl
theorem ports_eq {s : Sn} (h0 : 0 ≤ s.2.2.2.2.1) (h6 : s.2.2.2.2.1 ≤ 60) (hb : s.2.2.2.2.1 ≤ (b.length : Int)) (fr : Bool) (t : Sn) : ∃ a : Sn, lookup_cursor_ports N (b, ()) s = some ((), (a, ())) ∧
    ref22_See_4 N b t (s.1, s.2.1, s.2.2.1, fr, s.2.2.2.2.1, ()) = some (((a.1, a.2.1, a.2.2.1, fr, a.2.2.2.2.1, ()), 0, ()), ()) ∧ a.2.1 = s.2.1 ∧ a.2.2.1 = s.2.2.1 := by
  obtain ⟨⟨src, dst, pr, sp, dp, u0⟩, off, mo, fg, hd, u1⟩ := s
  simp only at h0 h6 hb
  unfold lookup_cursor_ports ref22_See_4
  have hw : w64 ((b.length : Int) - hd) = (b.length : Int) - hd := w64_of (by omega) (by omega)
  have hw2 : w64 (hd + 2) = hd + 2 := w64_of (by omega) (by omega)
  simp only [hw, hw2]
  by_cases ho : off = 0
  · subst ho
    simp only [decide_true, Bool.not_true, cond_false, cond_true]
    by_cases q4 : 4 ≤ (b.length : Int) - hd
    · have q2 : 2 ≤ (b.length : Int) - hd := by omega
      rw [dpos q4, dpos q2]
      simp only [cond_true, cint N hN hl h0 (by omega) (show (1 : Int) ≤ 2 by omega) (by omega) (show hd + 2 ≤ (b.length : Int) by omega), cint N hN hl (show 0 ≤ hd + 2 by omega) (by omega) (show (1 : Int) ≤ 2 by omega) (by omega) (show hd + 2 + 2 ≤ (b.length : Int) by omega), rword N hN hl h0 (by omega) (show hd + 2 ≤ (b.length : Int) by omega), rword N hN hl (show 0 ≤ hd + 2 by omega) (by omega) (show hd + 2 + 2 ≤ (b.length : Int) by omega), Option.bind_some]
      cases decide (pr = 6) <;> cases decide (pr = 17) <;> cases decide (pr = 1) <;> cases decide (pr = 58) <;> exact ⟨_, rfl, rfl, rfl, rfl⟩
    · rw [dneg q4]
      simp only [cond_false]
      by_cases q2 : 2 ≤ (b.length : Int) - hd
      · rw [dpos q2]
        simp only [cond_true, cint N hN hl h0 (by omega) (show (1 : Int) ≤ 2 by omega) (by omega) (show hd + 2 ≤ (b.length : Int) by omega), rword N hN hl h0 (by omega) (show hd + 2 ≤ (b.length : Int) by omega), Option.bind_some]
        cases decide (pr = 6) <;> cases decide (pr = 17) <;> cases decide (pr = 1) <;> cases decide (pr = 58) <;> exact ⟨_, rfl, rfl, rfl, rfl⟩
      · rw [dneg q2]
        cases decide (pr = 6) <;> cases decide (pr = 17) <;> cases decide (pr = 1) <;> cases decide (pr = 58) <;> exact ⟨_, rfl, rfl, rfl, rfl⟩
  · rw [dneg ho]
    cases decide (pr = 6) <;> cases decide (pr = 17) <;> cases decide (pr = 1) <;> cases decide (pr = 58) <;> exact ⟨_, rfl, rfl, rfl, rfl⟩
/-- The end of both, once the head is read. -/
theorem tail_eq {s : Sn} {e : Int} (t : Sn) (h : e = 0 → 0 ≤ s.2.2.2.2.1 ∧ s.2.2.2.2.1 ≤ 60 ∧ s.2.2.2.2.1 ≤ (b.length : Int)) : ∃ s' e', (bif (!(decide (e = 0))) then some ((zs, e, ()), ())
      else bif (decide ((4096 : Int) < (b.length : Int))) then some ((zs, 11, ()), ())
      else Option.bind (lookup_cursor_ports N (b, ()) s) fun y => bif y.2.1.2.2.1 then some (((y.2.1.1, y.2.1.2.1, y.2.1.2.2.1, true, y.2.1.2.2.2.2.1, ()), 0, ()), ())
        else some (((y.2.1.1, y.2.1.2.1, y.2.1.2.2.1, (!(decide (y.2.1.2.1 = (0 : Int)))), y.2.1.2.2.2.2.1, ()), 0, ()), ()) : Option lookup_See_R) = some ((s', e', ()), ()) ∧ ref22_See_1 N b e t s = some ((s', e', ()), ()) := by
  unfold ref22_See_1
  by_cases he : e = 0
  · obtain ⟨h0, h6, hb⟩ := h he
    subst he
    simp only [decide_true, Bool.not_true, cond_false, cond_true]
    unfold ref22_See_2
    by_cases h4 : (4096 : Int) < (b.length : Int)
    · rw [dpos h4]; exact ⟨zs, 11, rfl, rfl⟩
    · rw [dneg h4]
      simp only [cond_false]
      unfold ref22_See_3
      simp only [decide_true, Bool.not_true, cond_false]
      cases hm : s.2.2.1 with
      | true =>
        obtain ⟨a, e1, e2, e3, e4⟩ := ports_eq N hN hl h0 h6 hb true t
        rw [e1, Option.bind_some]
        simp only [cond_true]
        rw [hm] at e2 e4
        rw [e2, e4]
        exact ⟨_, _, rfl, rfl⟩
      | false =>
        obtain ⟨a, e1, e2, e3, e4⟩ := ports_eq N hN hl h0 h6 hb (!(decide (s.2.1 = 0))) t
        rw [e1, Option.bind_some]
        simp only [cond_false]
        rw [hm] at e2 e4
        rw [e2, e4, e3]
        exact ⟨_, _, rfl, rfl⟩
  · rw [dneg he]
    unfold ref22_See_2 ref22_See_3
    rw [dneg he]
    exact ⟨zs, e, rfl, rfl⟩
theorem see_eq : ∃ s e, lookup_See N b = some ((s, e, ()), ()) ∧ ref22_See N b = some ((s, e, ()), ()) := by
  unfold lookup_See ref22_See
  by_cases h0 : (b.length : Int) = 0
  · rw [dpos h0]; exact ⟨_, _, rfl, rfl⟩
  have hi : inR (0 : Int) b.length = true := inR_of (by omega) (by omega)
  simp only [dneg h0, cond_false, hi, cond_true]
  by_cases h4 : shr8 (b.getD 0 0) 4 = 4
  · rw [dpos h4]
    unfold lookup_four_least
    simp only [cond_true, Option.bind_some]
    by_cases h20 : (b.length : Int) < 20
    · rw [dpos h20]
      unfold ref22_four
      rw [dpos h20]
      exact ⟨zs, 1, rfl, rfl⟩
    · obtain ⟨s, e, e1, e2, e3⟩ := four_eq N hN hl (by omega)
      rw [dneg h20, e1, e2]
      simp only [cond_false, Option.bind_some]
      exact tail_eq N hN hl _ e3
  · by_cases h6 : shr8 (b.getD 0 0) 4 = 6
    · rw [dneg h4, dpos h6]
      simp only [cond_false, cond_true]
      unfold lookup_six_least ref22_six
      by_cases h40 : (b.length : Int) < 40
      · rw [dpos h40]
        by_cases h7 : (6 : Int) < (b.length : Int)
        · simp only [dpos h7, cond_true, inR_of (show (0 : Int) ≤ 6 by omega) h7]
          cases decide (b.getD 6 0 = 44)
          · simp only [cond_false, Option.bind_some, dpos h40, cond_true]
            exact ⟨zs, 1, rfl, rfl⟩
          · simp only [cond_true, Option.bind_some, dpos (show (b.length : Int) < 48 by omega)]
            exact ⟨zs, 1, rfl, rfl⟩
        · simp only [dneg h7, cond_false, Option.bind_some, dpos h40, cond_true]
          exact ⟨zs, 1, rfl, rfl⟩
      · have h7 : (6 : Int) < (b.length : Int) := by omega
        simp only [dpos h7, cond_true, inR_of (show (0 : Int) ≤ 6 by omega) h7, dneg h40, cond_false]
        by_cases h44 : b.getD 6 0 = 44
        · rw [dpos h44]
          simp only [cond_true, Option.bind_some]
          by_cases h48 : (b.length : Int) < 48
          · rw [dpos h48]
            exact ⟨zs, 1, rfl, rfl⟩
          · obtain ⟨s, e, e1, e2, e3⟩ := six_eq N hN hl (by omega) (fun _ => by omega) zs
            rw [dneg h48, e1]
            have e2' : ref22_six_1 N b false ((((0 : Int), (0 : UInt64), (0 : UInt64), ()), ((0 : Int), (0 : UInt64), (0 : UInt64), ()), (0 : Int), (0 : Int), (0 : Int), ()), (0 : Int), false, false, (0 : Int), ()) = some ((s, e, ()), ()) := e2
            rw [e2']
            simp only [cond_false, Option.bind_some]
            exact tail_eq N hN hl _ e3
        · rw [dneg h44]
          obtain ⟨s, e, e1, e2, e3⟩ := six_eq N hN hl (by omega) (fun h => absurd h h44) zs
          simp only [cond_false, Option.bind_some, dneg h40]
          have e2' : ref22_six_1 N b false ((((0 : Int), (0 : UInt64), (0 : UInt64), ()), ((0 : Int), (0 : UInt64), (0 : UInt64), ()), (0 : Int), (0 : Int), (0 : Int), ()), (0 : Int), false, false, (0 : Int), ()) = some ((s, e, ()), ()) := e2
          rw [e1, e2']
          simp only [Option.bind_some]
          exact tail_eq N hN hl _ e3
    · rw [dneg h4, dneg h6]
      exact ⟨zs, 3, rfl, rfl⟩
end
end Go.Proofs.Ytgbkkfpheahdfaa.Pl
