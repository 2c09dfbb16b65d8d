/- Bytes of elements, shared secrets, parsing: the program's and the reference's. -/
import Derived.Test.YtlamdneheilahaaElem
import Derived.Test.YtlamdneheilahaaPut
namespace Go.Proofs.Ytlamdneheilahaa
open Go.RowKit

theorem val_be (k x : Nat) : val (be k x) = x % 256 ^ k := by
  suffices h : ∀ (k : Nat) (v : Nat), (be k x).foldl (fun v b => v * 256 + b.toNat) v = v * 256 ^ k + x % 256 ^ k by simpa [val] using h k 0
  intro k
  induction k with
  | zero => intro v; simp [be, Nat.mod_one]
  | succ k ih =>
    intro v
    simp only [be, List.foldl_cons, ih]
    rw [UInt8.toNat_ofNat', show (2 : Nat) ^ 8 = 256 from rfl, Nat.pow_succ, Nat.add_mul]
    have h1 : x % (256 ^ k * 256) = 256 ^ k * (x / 256 ^ k % 256) + x % 256 ^ k := by
      rw [Nat.mod_mul]; omega
    rw [h1, Nat.mul_assoc v 256, Nat.mul_comm 256 (256 ^ k), Nat.mul_comm (x / 256 ^ k % 256)]
    omega

theorem pw_bd (a e : Int) : 0 ≤ pw a e ∧ pw a e < 4611686018427377339 := by unfold pw; omega

theorem group_bytes (x : Nat) (w : World) (hx : x ≤ 18446744073709551615) :
    Calls Try.prog 31 #[.int .u64 x] w fun e w' => ∃ v, e = .returned v ∧ w'.ownsRow w.heap.size 5 1 v 8 (bvs (be 8 x)) ∧ Ext w w' := by
  go_enter Try.func31, Try.ntmps31
  go_wp2_with fail
  refine (wire_put w.heap.size 0 x 8 _ [] w (World.ownsRow_nil _ _ _ _) (Nat.le_refl _) hx (by omega) (by omega) (by omega)).mono ?_
  rintro e w' ⟨v, rfl, ho, hg, _⟩
  go_wp2_with fail
  go_ret
  exact ⟨v, rfl, by simpa using ho, Ext.own (Ext.refl w) (World.ownsRow_nil w w.heap.size 5 1) (Nat.le_refl _) hg⟩

/-- What two secrets have in common. -/
def shr (s p : Int) : List UInt8 := bif sc s && el p then be 8 (pw p s).toNat else []

theorem group_shared (s p : Int) (s0 : 0 ≤ s) (s1 : s ≤ 18446744073709551615) (p0 : 0 ≤ p) (p1 : p ≤ 18446744073709551615) (w : World) :
    Calls Try.prog 29 #[.int .u64 s, .int .u64 p] w fun e w' => ∃ v n, e = .returned (.tuple #[v, .int .i64 (bif sc s && el p then 0 else 13)]) ∧ w'.ownsRow w.heap.size 5 1 v n (bvs (shr s p)) ∧ Ext w w' := by
  have hnn := pw_bd p s
  obtain ⟨y, hy⟩ := Int.eq_ofNat_of_zero_le hnn.1
  have hy1 : y ≤ 18446744073709551615 := by omega
  have Hs : Hid (shr s p = bif sc s && el p then be 8 y else []) := by unfold Hid shr; rw [hy, Int.toNat_natCast]
  cases hs : sc s
  · have hq : Hid (shr s p = []) := by rw [Hs.out, hs]; rfl
    go_enter Try.func29, Try.ntmps29
    go_wp2_with (go_at_call 49; refine (group_valid s _).mono ?_; rintro en w1 ⟨rfl, rfl⟩)
    go_ret2
    exact ⟨_, 0, rfl, by rw [hq.out]; exact World.ownsRow_nil _ _ _ _, Ext.refl _⟩
  · cases he : el p
    · have hq : Hid (shr s p = []) := by rw [Hs.out, hs, he]; rfl
      go_enter Try.func29, Try.ntmps29
      go_wp2_with (first
        | (go_at_call 49; refine (group_valid s _).mono ?_; rintro en w1 ⟨rfl, rfl⟩)
        | (go_at_call 23; refine (group_element p p0 p1 _).mono ?_; rintro en w1 ⟨rfl, m1, rfl⟩))
      go_ret2
      exact ⟨_, 0, rfl, by rw [hq.out]; exact World.ownsRow_nil _ _ _ _, (Ext.refl _).drewN _⟩
    · have hq : Hid (shr s p = be 8 y) := by rw [Hs.out, hs, he]; rfl
      go_enter Try.func29, Try.ntmps29
      go_wp2_with (first
        | (go_at_call 49; refine (group_valid s _).mono ?_; rintro en w1 ⟨rfl, rfl⟩)
        | (go_at_call 23; refine (group_element p p0 p1 _).mono ?_; rintro en w1 ⟨rfl, m1, rfl⟩)
        | (go_at_call 21; refine (group_power p s p0 p1 s0 s1 _).mono ?_; rintro en w1 ⟨rfl, m2, rfl⟩)
        | (go_at_call 31; refine (group_bytes y _ hy1).mono ?_; rintro en w3 ⟨v, rfl, ho, hx⟩))
      go_ret2
      exact ⟨v, 8, rfl, by rw [hq.out]; exact ho, ((Ext.refl w).drewN _).trans hx⟩

/-- What bytes are as an element: the number and the error. -/
def prs (l : List UInt8) : Int × Int := if l.length ≠ 8 then (0, 2) else bif el (val l) then (val l, 0) else (0, 13)

theorem group_parse (A : Option Addr) (n c : Nat) (l : List UInt8) (w : World) (hA : Rd w 1 A n (bvs l)) (hn : n ≤ c) (hm : c ≤ 9223372036854775807) :
    Calls Try.prog 33 #[.slice A n c] w fun e w' => e = .returned (.tuple #[.int .u64 (prs l).1, .int .i64 (prs l).2]) ∧ ∃ k, w' = w.drewN k := by
  have hl := hA.lenB
  by_cases h8 : n = 8
  · subst h8
    have hp : Hid (prs l = bif el (val l) then ((val l : Int), 0) else (0, 13)) := by unfold Hid prs; rw [if_neg (by omega)]
    have hd8 : l.take 8 = l := List.take_of_length_le (by omega)
    have c1 := wire_number A 8 c l 0 8 w hA hn hm (by omega) (by omega) (by omega) (by omega)
    rw [show (0 : Int).toNat = 0 from rfl, show (8 : Int).toNat = 8 from rfl, List.drop_zero, hd8] at c1
    have v1 : val l < 18446744073709551616 := by have := val_lt l; rw [hl] at this; exact this
    obtain ⟨x, hx⟩ : ∃ x, val l = x := ⟨_, rfl⟩
    rw [hx] at hp c1 v1
    have C1 := hd c1
    clear hd8 hl hx c1
    cases he : el (x : Int)
    · have hq : Hid (prs l = (0, 13)) := by rw [hp.out, he]; rfl
      rw [hq.out]
      go_enter Try.func33, Try.ntmps33
      go_wp2_with (first
        | (go_at_call 53; refine C1.out.mono ?_; rintro en w1 ⟨rfl, rfl⟩)
        | (go_at_call 23; refine (group_element x (by omega) (by omega) _).mono ?_; rintro en w1 ⟨rfl, m1, rfl⟩))
      go_ret2
      exact ⟨rfl, _, rfl⟩
    · have hq : Hid (prs l = ((x : Int), 0)) := by rw [hp.out, he]; rfl
      rw [hq.out]
      go_enter Try.func33, Try.ntmps33
      go_wp2_with (first
        | (go_at_call 53; refine C1.out.mono ?_; rintro en w1 ⟨rfl, rfl⟩)
        | (go_at_call 23; refine (group_element x (by omega) (by omega) _).mono ?_; rintro en w1 ⟨rfl, m1, rfl⟩))
      go_ret2
      exact ⟨rfl, _, rfl⟩
  · have hp : prs l = (0, 2) := by unfold prs; rw [if_pos (by omega)]
    have hz : ((n : Int) != 8) = true := by simp; omega
    rw [hp]
    clear hp hl
    go_enter Try.func33, Try.ntmps33
    go_wp2_with fail
    go_ret2
    exact ⟨rfl, 0, rfl⟩
end Go.Proofs.Ytlamdneheilahaa
