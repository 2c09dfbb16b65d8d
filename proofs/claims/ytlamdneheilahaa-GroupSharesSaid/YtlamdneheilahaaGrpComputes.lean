/- The law GroupComputes. -/
import Derived.Test.YtlamdneheilahaaGrp
import Derived.Test.YtlamdneheilahaaAgg
namespace Go.Proofs.Ytlamdneheilahaa
open Go.RowKit

theorem qadd {P : Program} {f : FuncId} {args : Array Value} {w : World} {a n : Nat} {v : Value}
    (h : Calls P f args (w.drewN (a + n)) fun e w' => e = .returned v ∧ ∃ m, w' = (w.drewN (a + n)).drewN m) :
    Calls P f args (w.drewN (a + n)) fun e w'' => e = .returned v ∧ ∃ m, w'' = w.drewN (a + m) :=
  h.mono fun _ _ ⟨he, m, hm⟩ => ⟨he, n + m, by rw [hm, World.drewN_drewN, Nat.add_assoc]⟩
theorem q_same {P : Program} {f : FuncId} {args : Array Value} {w : World} {v : Value}
    (h : Calls P f args w fun e w' => e = .returned v ∧ w = w') : Calls P f args w fun e w' => e = .returned v ∧ ∃ m, w' = w.drewN m :=
  h.mono fun _ _ ⟨he, hm⟩ => ⟨he, 0, by rw [← hm]; rfl⟩

theorem tA2 : AggT Try.prog 38 2 := ⟨⟨_, Try.underlying38, rfl⟩, by kernel_rfl⟩

set_option maxHeartbeats 4000000 in
theorem law13_computes (w : World) (a : Int) (a0 : 0 ≤ a) (a1 : a ≤ 18446744073709551615) (b : Int) (b0 : 0 ≤ b) (b1 : b ≤ 18446744073709551615) (e : Int) (e0 : 0 ≤ e) (e1 : e ≤ 18446744073709551615) :
    Calls Try.prog 7 #[.int .u64 a, .int .u64 b, .int .u64 e] w fun en w' => en = .returned (.bool true) ∧ Ext w w' := by
  go_enter Try.func7, Try.ntmps7
  go_wp2_with fail
  refine (law13_awake _).mono ?_
  rintro en w' ⟨rfl, m1, rfl⟩
  go_wp2_with fail
  go_loopw [33] (fun i wr => ∃ (k : Nat), k ≤ 3 ∧ i = .int .i64 k ∧ Ext w wr ∧ w.heap.size < wr.heap.size ∧ Blk wr w.heap.size 38 #[.int .u64 a, .int .u64 b, .int .u64 (4611686018427377338 - a % 8), .int .u64 (4611686018427377339 + b % 8), .int .u64 (a % 4611686018427377339), .int .u64 (b % 5)]) (fun i _ => 3 - (intOf i).toNat)
  case atStart => exact ⟨0, by omega, rfl, ((Ext.refl _).drewN _).alloc _, by simp, Blk.new (w.drewN m1) _ _⟩
  case round =>
    obtain ⟨k, hk, rfl, hx, hlt, hb⟩ := hrel
    by_cases h3 : k < 3
    · obtain ⟨x, y, x0, x1, y0, y1, hs⟩ : ∃ x y : Int, 0 ≤ x ∧ x ≤ 18446744073709551615 ∧ 0 ≤ y ∧ y ≤ 18446744073709551615 ∧ (([.int .u64 a, .int .u64 b, .int .u64 (4611686018427377338 - a % 8), .int .u64 (4611686018427377339 + b % 8), .int .u64 (a % 4611686018427377339), .int .u64 (b % 5)] : List Value).drop (k * 2)).take 2 = [.int .u64 x, .int .u64 y] := by
        rcases (by omega : k = 0 ∨ k = 1 ∨ k = 2) with rfl | rfl | rfl
        · exact ⟨_, _, a0, a1, b0, b1, rfl⟩
        · exact ⟨_, _, by omega, by omega, by omega, by omega, rfl⟩
        · exact ⟨_, _, by omega, by omega, by omega, by omega, rfl⟩
      have hc := hd (hb.sub (k * 2) 2 hs)
      clear hs
      go_wp2_with (with_reducible refine ld (o := ⟨some 36, _, _, _, _, _⟩) tA2 rfl _ rfl _ _ rfl [.int .u64 x, .int .u64 y] rfl ?_ ?_)
      case refine_1 => exact hc.out
      go_quiet ((first
        | (go_at_call 19; exact Calls.quiet_of (group_mul x y x0 x1 y0 y1 _))
        | (go_at_call 20; exact Calls.quiet_of (q_same (ref_mul x y x0 x1 y0 y1 _)))
        | (go_at_call 21; exact Calls.quiet_of (group_power x e x0 x1 e0 e1 _))
        | (go_at_call 22; exact Calls.quiet_of (q_same (ref_power x e x0 x1 e0 e1 _)))
        | (go_at_call 23; exact Calls.quiet_of (group_element x x0 x1 _))
        | (go_at_call 24; exact Calls.quiet_of (q_same (ref_element x x0 x1 _)))))
      go_wp2_with fail
      go_roundw
      case rel => exact ⟨k + 1, by omega, by go_num, (hx.alloc _).drewN _, by simp; omega, (hb.alloc _).drewN _⟩
      case measure => simp [intOf] <;> omega
    · obtain rfl : k = 3 := by omega
      go_wp2_with fail
      go_ret
      exact ⟨rfl, hx⟩
end Go.Proofs.Ytlamdneheilahaa
