/- Bytes of elements, shared secrets, parsing: the reference's. -/
import Derived.Test.YtlamdneheilahaaShare
namespace Go.Proofs.Ytlamdneheilahaa
open Go.RowKit

theorem ref_bytes (x : Nat) (w : World) (hx : x ≤ 18446744073709551615) :
    Calls Try.prog 32 #[.int .u64 x] w fun e w' => ∃ v, e = .returned v ∧ w'.ownsRow w.heap.size 5 1 v 8 (bvs (be 8 x)) ∧ Ext w w' := by
  go_enter Try.func32, Try.ntmps32
  go_wp2_with fail
  refine (ref_put none 0 0 [] x 8 w (Rd.nil _ _ _) (by omega) hx (by omega) (by omega)).mono ?_
  rintro e w' ⟨v, rfl, ho, hg⟩
  go_wp2_with fail
  go_ret
  exact ⟨v, rfl, by simpa using ho, hg⟩

theorem ref_shared (s p : Int) (s0 : 0 ≤ s) (s1 : s ≤ 18446744073709551615) (p0 : 0 ≤ p) (p1 : p ≤ 18446744073709551615) (w : World) :
    Calls Try.prog 30 #[.int .u64 s, .int .u64 p] w fun e w' => ∃ v n, e = .returned (.tuple #[v, .int .i64 (bif sc s && el p then 0 else 13)]) ∧ w'.ownsRow w.heap.size 5 1 v n (bvs (shr s p)) ∧ Ext w w' := by
  have hnn := pw_bd p s
  obtain ⟨y, hy⟩ := Int.eq_ofNat_of_zero_le hnn.1
  have hy1 : y ≤ 18446744073709551615 := by omega
  have Hs : Hid (shr s p = bif sc s && el p then be 8 y else []) := by unfold Hid shr; rw [hy, Int.toNat_natCast]
  cases hs : sc s
  · have hq : Hid (shr s p = []) := by rw [Hs.out, hs]; rfl
    go_enter Try.func30, Try.ntmps30
    go_wp2_with (go_at_call 50; refine (ref_secret s _).mono ?_; rintro en w1 ⟨rfl, rfl⟩)
    go_ret2
    exact ⟨_, 0, rfl, by rw [hq.out]; exact World.ownsRow_nil _ _ _ _, Ext.refl _⟩
  · cases he : el p
    · have hq : Hid (shr s p = []) := by rw [Hs.out, hs, he]; rfl
      go_enter Try.func30, Try.ntmps30
      go_wp2_with (first
        | (go_at_call 50; refine (ref_secret s _).mono ?_; rintro en w1 ⟨rfl, rfl⟩)
        | (go_at_call 24; refine (ref_element p p0 p1 _).mono ?_; rintro en w1 ⟨rfl, rfl⟩))
      go_ret2
      exact ⟨_, 0, rfl, by rw [hq.out]; exact World.ownsRow_nil _ _ _ _, Ext.refl _⟩
    · have hq : Hid (shr s p = be 8 y) := by rw [Hs.out, hs, he]; rfl
      go_enter Try.func30, Try.ntmps30
      go_wp2_with (first
        | (go_at_call 50; refine (ref_secret s _).mono ?_; rintro en w1 ⟨rfl, rfl⟩)
        | (go_at_call 24; refine (ref_element p p0 p1 _).mono ?_; rintro en w1 ⟨rfl, rfl⟩)
        | (go_at_call 22; refine (ref_power p s p0 p1 s0 s1 _).mono ?_; rintro en w1 ⟨rfl, rfl⟩)
        | (go_at_call 32; refine (ref_bytes y _ hy1).mono ?_; rintro en w3 ⟨v, rfl, ho, hx⟩))
      go_ret2
      exact ⟨v, 8, rfl, by rw [hq.out]; exact ho, hx⟩

theorem ref_parse (A : Option Addr) (n c : Nat) (l : List UInt8) (w : World) (hA : Rd w 1 A n (bvs l)) (hn : n ≤ c) (hm : c ≤ 9223372036854775807) :
    Calls Try.prog 34 #[.slice A n c] w fun e w' => e = .returned (.tuple #[.int .u64 (prs l).1, .int .i64 (prs l).2]) ∧ w = w' := by
  have hl := hA.lenB
  by_cases h8 : n = 8
  · subst h8
    have hp : Hid (prs l = bif el (val l) then ((val l : Int), 0) else (0, 13)) := by unfold Hid prs; rw [if_neg (by omega)]
    have hd8 : l.take 8 = l := List.take_of_length_le (by omega)
    have c1 := ref_number A 8 c l 0 8 w hA (by omega) (by omega) (by omega) (by omega) (by omega)
    rw [show (0 : Int).toNat = 0 from rfl, show (8 : Int).toNat = 8 from rfl, List.drop_zero, hd8] at c1
    have v1 : val l < 18446744073709551616 := by have := val_lt l; rw [hl] at this; exact this
    obtain ⟨x, hx⟩ : ∃ x, val l = x := ⟨_, rfl⟩
    rw [hx] at hp c1 v1
    have C1 := hd c1
    clear hd8 hl hx c1
    cases he : el (x : Int)
    · have hq : Hid (prs l = (0, 13)) := by rw [hp.out, he]; rfl
      rw [hq.out]
      go_enter Try.func34, Try.ntmps34
      go_wp2_with (first
        | (go_at_call 54; refine C1.out.mono ?_; rintro en w1 ⟨rfl, rfl⟩)
        | (go_at_call 24; refine (ref_element x (by omega) (by omega) _).mono ?_; rintro en w1 ⟨rfl, rfl⟩))
      go_ret2
      exact ⟨rfl, rfl⟩
    · have hq : Hid (prs l = ((x : Int), 0)) := by rw [hp.out, he]; rfl
      rw [hq.out]
      go_enter Try.func34, Try.ntmps34
      go_wp2_with (first
        | (go_at_call 54; refine C1.out.mono ?_; rintro en w1 ⟨rfl, rfl⟩)
        | (go_at_call 24; refine (ref_element x (by omega) (by omega) _).mono ?_; rintro en w1 ⟨rfl, rfl⟩))
      go_ret2
      exact ⟨rfl, rfl⟩
  · have hp : prs l = (0, 2) := by unfold prs; rw [if_pos (by omega)]
    have hz : ((n : Int) != 8) = true := by simp; omega
    rw [hp]
    clear hp hl
    go_enter Try.func34, Try.ntmps34
    go_wp2_with fail
    go_ret2
    exact ⟨rfl, rfl⟩
end Go.Proofs.Ytlamdneheilahaa
