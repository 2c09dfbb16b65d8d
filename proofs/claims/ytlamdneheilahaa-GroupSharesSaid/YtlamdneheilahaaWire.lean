/- Numbers in bytes: the program's wire and the reference's. -/
import Derived.Test.YtlamdneheilahaaWords
import Derived.BigQuiet
import Derived.Deep.QuietTactic
namespace Go.Proofs.Ytlamdneheilahaa
open Go.RowKit

/-- The k lowest bytes of a number, the highest first. -/
def be : Nat → Nat → List UInt8
  | 0, _ => []
  | k + 1, x => UInt8.ofNat (x / 256 ^ k) :: be k x
theorem be_len (k x : Nat) : (be k x).length = k := by induction k with
  | zero => rfl
  | succ k ih => simp [be, ih]

theorem be_step (x j : Nat) : ((x : Int) / 2 ^ (8 * j) % 256) = ((UInt8.ofNat (x / 256 ^ j)).toNat : Int) := by
  rw [UInt8.toNat_ofNat', show (256 : Nat) ^ j = 2 ^ (8 * j) from by rw [Nat.pow_mul]]
  simp [Int.pow_mul]

/-- What a round of Put does. -/
theorem put_round {base n x W j : Nat} {w wr w1 : World} {v v1 v2 : Value} {xs : List Value} {p : List UInt8} {y : Int} {e : Nat} (hbase : base ≤ w.heap.size) (hg : w.grownBy wr v.ownBlock)
    (hat : v1.ownBlock = v.ownBlock ∨ ∃ g, v1.ownBlock = some g ∧ w.heap.size ≤ g) (ho : wr.ownsRow base e 1 v1 (n + (W - (j + 1))) (xs ++ bvs p))
    (ho1 : w1.ownsRow base e 1 v2 (n + (W - (j + 1)) + 1) (xs ++ (bvs p ++ [.int .u8 y]))) (hg1 : (wr.alloc (.cells #[.int .u8 y] e)).grownBy w1 v1.ownBlock)
    (hat1 : v2.ownBlock = v1.ownBlock ∨ v2.ownBlock = some (wr.heap.size + 1)) (hy : y = ((UInt8.ofNat (x / 256 ^ j)).toNat : Int))
    (hp : p ++ be (j + 1) x = be W x) (hj : j + 1 ≤ W) :
    w1.ownsRow base e 1 v2 (n + (W - j)) (xs ++ bvs (p ++ [UInt8.ofNat (x / 256 ^ j)])) ∧ w.grownBy w1 v.ownBlock ∧ (v2.ownBlock = v.ownBlock ∨ ∃ g, v2.ownBlock = some g ∧ w.heap.size ≤ g) ∧
      Hid ((p ++ [UInt8.ofNat (x / 256 ^ j)]) ++ be j x = be W x) := by
  subst hy
  refine ⟨?_, ?_, ?_, ?_⟩
  · rw [show n + (W - j) = n + (W - (j + 1)) + 1 from by omega]
    simpa only [List.map_append, List.map_cons, List.map_nil, List.append_assoc] using ho1
  · refine ⟨hg1.os.trans hg.os, hg1.tape.trans hg.tape, hg1.output.trans hg.output, ?_, fun k hk hne => ?_⟩
    · have := hg1.size; have := hg.size; simp at *; omega
    · have h1 : k < wr.heap.size := Nat.lt_of_lt_of_le hk hg.size
      rw [hg1.block k (by simp; omega) ?_]
      · rw [Below.heap_alloc _ _ _ h1]
        exact hg.block k hk hne
      · rcases hat with h | ⟨g, h, hgs⟩
        · rw [h]; exact hne
        · rw [h]; intro hh; injection hh with hh; omega
  · have := hg.size
    rcases hat1 with h | h
    · rw [h]; exact hat
    · exact .inr ⟨_, h, by omega⟩
  · unfold Hid
    rw [← hp]
    simp [be]

set_option maxHeartbeats 1000000 in
theorem wire_put (base n x W : Nat) (v : Value) (xs : List Value) (w : World) (hown : w.ownsRow base 5 1 v n xs) (hbase : base ≤ w.heap.size)
    (hx : x ≤ 18446744073709551615) (hW1 : 1 ≤ W) (hW8 : W ≤ 8) (hn : n + 8 ≤ 140737488355328) :
    Calls Try.prog 51 #[v, .int .u64 x, .int .i64 W] w fun e w' => ∃ v', e = .returned v' ∧ w'.ownsRow base 5 1 v' (n + W) (xs ++ bvs (be W x)) ∧ w.grownBy w' v.ownBlock ∧
      (v'.ownBlock = v.ownBlock ∨ ∃ g, v'.ownBlock = some g ∧ w.heap.size ≤ g) := by
  go_enter Try.func51, Try.ntmps51
  go_wp2_with fail
  go_loopw [0, 7] (fun v' i wr => ∃ (k : Nat) (p : List UInt8), k ≤ W ∧ i = .int .i64 ((k : Int) - 1) ∧ wr.ownsRow base 5 1 v' (n + (W - k)) (xs ++ bvs p) ∧ w.grownBy wr v.ownBlock ∧
      (v'.ownBlock = v.ownBlock ∨ ∃ g, v'.ownBlock = some g ∧ w.heap.size ≤ g) ∧ Hid (p ++ be k x = be W x)) (fun _ i _ => (intOf i + 1).toNat)
  case atStart => exact ⟨W, [], Nat.le_refl _, by go_num, by simpa using hown, World.grownBy.refl _ _, .inl rfl, rfl⟩
  case round =>
    obtain ⟨k, p, hk, rfl, ho, hg, hat, hp⟩ := hrel
    by_cases hz : 0 < k
    · obtain ⟨j, rfl⟩ : ∃ j, k = j + 1 := ⟨k - 1, by omega⟩
      have hb := hd (be_step x j)
      go_wp2_with (at_builtin; refine app _ tB rfl (.tmp 21) (.tmp 27) rfl base _ _ _ rfl (ho.alloc _) _ 1 1 [_] rfl (Rd.one _ _ _) ?c1 ?c2 ?c3 ?_)
      case c1 => intro u hu; simp at hu; subst hu; rfl
      case c2 => omega
      case c3 => have := hg.size; simp; omega
      intro v1 w1 ho1 hg1 hat1
      have R := put_round hbase hg hat ho ho1 hg1 hat1 hb.out hp.out (by omega)
      clear ho1 hg1 hat1
      go_wp2_with fail
      go_roundw
      case rel => exact ⟨j, p ++ [UInt8.ofNat (x / 256 ^ j)], by omega, by go_num, R.1, R.2.1, R.2.2.1, R.2.2.2⟩
      case measure => simp [intOf] <;> omega
    · obtain rfl : k = 0 := by omega
      go_wp2_with fail
      go_ret
      refine ⟨_, rfl, ?_, hg, hat⟩
      have := hp.out
      simp only [be, List.append_nil] at this
      subst this
      simpa using ho
end Go.Proofs.Ytlamdneheilahaa
