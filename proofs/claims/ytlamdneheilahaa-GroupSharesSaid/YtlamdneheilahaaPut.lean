/- The reference's Put: a copy, and the bytes of a number behind it. -/
import Derived.Test.YtlamdneheilahaaNumber
namespace Go.Proofs.Ytlamdneheilahaa
open Go.RowKit

theorem oneI {x : Value} (h : x.oneCell' = true) : ∀ u ∈ [x], u.oneCell' = true := by intro u hu; simp at hu; subst hu; exact h

set_option maxHeartbeats 2000000 in
theorem ref_put (A : Option Addr) (n c : Nat) (l : List UInt8) (x W : Nat) (w : World) (hA : Rd w 1 A n (bvs l)) (hn : n + 8 ≤ 140737488355328) (hx : x ≤ 18446744073709551615) (hW1 : 1 ≤ W) (hW8 : W ≤ 8) :
    Calls Try.prog 52 #[.slice A n c, .int .u64 x, .int .i64 W] w fun e w' => ∃ v', e = .returned v' ∧ w'.ownsRow w.heap.size 5 1 v' (n + W) (bvs (l ++ be W x)) ∧ Ext w w' := by
  go_enter Try.func52, Try.ntmps52
  go_wp2_with (at_builtin; refine app _ tB rfl (.const (.slice none 0 0)) (.tmp 9) rfl w.heap.size _ _ _ rfl (World.ownsRow_nil _ _ _ _) _ n c _ rfl hA (oneB l) ?_ (Nat.le_refl _) ?_)
  · omega
  intro v1 w1 ho1 hg1 hat1
  have x1 : Ext w w1 := Ext.own (Ext.refl w) (World.ownsRow_nil w w.heap.size 5 1) (Nat.le_refl _) hg1
  have hb1 : ∀ k, v1.ownBlock = some k → w.heap.size ≤ k := fun k hk => (ho1.lt k hk).1
  have Hb1 := hd hb1
  clear hat1 hg1 hb1
  go_wp2_with fail
  go_loopw [7, 8] (fun v' i wr => ∃ (k : Nat) (p : List UInt8), k ≤ W ∧ i = .int .i64 ((k : Int) - 1) ∧ wr.ownsRow w.heap.size 5 1 v' (n + (W - k)) (bvs l ++ bvs p) ∧ w1.grownBy wr v1.ownBlock ∧
      (v'.ownBlock = v1.ownBlock ∨ ∃ g, v'.ownBlock = some g ∧ w1.heap.size ≤ g) ∧ Hid (p ++ be k x = be W x)) (fun _ i _ => (intOf i + 1).toNat)
  case atStart => exact ⟨W, [], Nat.le_refl _, by go_num, by simpa using ho1, World.grownBy.refl _ _, .inl rfl, rfl⟩
  case round =>
    obtain ⟨k, p, hk, rfl, ho, hg, hat, hp⟩ := hrel
    by_cases hz : 0 < k
    · obtain ⟨j, rfl⟩ : ∃ j, k = j + 1 := ⟨k - 1, by omega⟩
      have hb := hd (be_step x j)
      go_wp2_with (at_builtin; refine app _ tB rfl (.tmp 24) (.tmp 31) rfl w.heap.size _ _ _ rfl (ho.alloc _) _ 1 1 [_] rfl (Rd.one _ _ _) ?c1 ?c2 ?c3 ?_)
      case c1 => exact oneI rfl
      case c2 => omega
      case c3 => have := hg.size; have := x1.le; simp; omega
      intro v2 w2 ho2 hg2 hat2
      have R := put_round (show w.heap.size ≤ w1.heap.size from x1.le) hg hat ho ho2 hg2 hat2 hb.out hp.out (by omega)
      clear ho2 hg2 hat2
      go_wp2_with fail
      go_roundw
      case rel => exact ⟨j, p ++ [UInt8.ofNat (x / 256 ^ j)], by omega, by go_num, R.1, R.2.1, R.2.2.1, R.2.2.2⟩
      case measure => simp [intOf] <;> omega
    · obtain rfl : k = 0 := by omega
      go_wp2_with fail
      go_ret
      refine ⟨_, rfl, ?_, x1.grown hg fun k hk => Hb1.out k hk⟩
      have := hp.out
      simp only [be, List.append_nil] at this
      subst this
      simpa using ho
end Go.Proofs.Ytlamdneheilahaa
