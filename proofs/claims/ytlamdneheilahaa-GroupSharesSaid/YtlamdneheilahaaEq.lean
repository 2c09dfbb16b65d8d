/- Equality of bytes: the reference's Compare and Equal. -/
import Derived.Test.YtlamdneheilahaaWire
namespace Go.Proofs.Ytlamdneheilahaa
open Go.RowKit

set_option maxHeartbeats 1000000 in
theorem ref_compare (A B : Option Addr) (n m c d : Nat) (l r : List UInt8) (w : World) (hA : Rd w 1 A n (bvs l)) (hB : Rd w 1 B m (bvs r)) (hn : n ≤ 9223372036854775807) (hm : m ≤ 9223372036854775807) :
    Calls Try.prog 46 #[.slice A n c, .slice B m d] w fun e w' => ∃ (x : Int) (k : Nat), e = .returned (.int .i64 x) ∧ (x = 0 ↔ l = r) ∧ w' = w.drewN k := by
  have la := hA.lenB
  have lb := hB.lenB
  have Ha := hd la; have Hb := hd lb; clear la lb
  go_enter Try.func46, Try.ntmps46
  go_wp2_with fail
  go_loopw [5] (fun i wr => ∃ (k z : Nat), k ≤ n ∧ k ≤ m ∧ i = .int .i64 k ∧ wr = w.drewN z ∧ Hid (l.take k = r.take k)) (fun i _ => n - (intOf i).toNat)
  case atStart => exact ⟨0, 0, by omega, by omega, rfl, rfl, rfl⟩
  case round =>
    obtain ⟨k, z, hk, hk', rfl, rfl, hp⟩ := hrel
    by_cases h1 : k < n
    · by_cases h2 : k < m
      · obtain ⟨b, o, rfl, hb, hc⟩ := hA.atB (by omega)
        obtain ⟨b', o', rfl, hb', hc'⟩ := hB.atB (by omega)
        have e1 := hc k h1
        have e2 := hc' k h2
        obtain ⟨x, hx⟩ : ∃ x, ((l.getD k 0).toNat : Int) = x := ⟨_, rfl⟩
        obtain ⟨y, hy⟩ : ∃ y, ((r.getD k 0).toNat : Int) = y := ⟨_, rfl⟩
        rw [hx] at e1; rw [hy] at e2
        clear hc hc'
        have Hx := hd hx; have Hy := hd hy; clear hx hy
        have hne : x ≠ y → l ≠ r := fun h e => h (by rw [← Hx.out, ← Hy.out, e])
        rcases Int.lt_trichotomy x y with h | h | h
        · go_wp2_with fail
          go_quiet (fail)
          go_wp2_with fail
          go_ret
          exact ⟨_, _, rfl, ⟨fun h => absurd h (by decide), fun e => absurd e (hne (by omega))⟩, World.drewN_drewN _ _ _⟩
        · subst h
          have hp' : Hid (l.take (k + 1) = r.take (k + 1)) := by
            have q := hp.out
            have qa := Ha.out; have qb := Hb.out
            unfold Hid
            rw [List.take_add_one, List.take_add_one, q]
            congr 2
            have h3 : (l.getD k 0).toNat = (r.getD k 0).toNat := by have := Hx.out; have := Hy.out; omega
            have h4 := UInt8.toNat_inj.1 h3
            rw [List.getElem?_eq_getElem (by omega), List.getElem?_eq_getElem (by omega)]
            simp only [List.getD, List.getElem?_eq_getElem (show k < l.length by omega), List.getElem?_eq_getElem (show k < r.length by omega), Option.getD_some] at h4
            rw [h4]
          have hlt : decide (x < x) = false := by simp
          go_wp2_with fail
          go_quiet (fail)
          go_wp2_with fail
          go_quiet (fail)
          go_wp2_with fail
          go_roundw
          case rel => exact ⟨k + 1, _, by omega, by omega, by go_num, rfl, hp'⟩
          case measure => simp [intOf]; omega
        · go_wp2_with fail
          go_quiet (fail)
          go_wp2_with fail
          go_quiet (fail)
          go_wp2_with fail
          go_ret
          exact ⟨_, _, rfl, ⟨fun h => absurd h (by decide), fun e => absurd e (hne (by omega))⟩, by rw [World.drewN_drewN, World.drewN_drewN]⟩
      · obtain rfl : k = m := by omega
        have hne : Hid (l ≠ r) := fun e => by have := Ha.out; have := Hb.out; rw [e] at *; omega
        go_wp2_with fail
        go_ret
        exact ⟨_, _, rfl, ⟨fun h => absurd h (by decide), fun e => absurd e hne.out⟩, rfl⟩
    · obtain rfl : k = n := by omega
      by_cases h2 : k < m
      · have hne : Hid (l ≠ r) := fun e => by have := Ha.out; have := Hb.out; rw [e] at *; omega
        go_wp2_with fail
        go_ret
        exact ⟨_, _, rfl, ⟨fun h => absurd h (by decide), fun e => absurd e hne.out⟩, rfl⟩
      · obtain rfl : k = m := by omega
        have he : Hid (l = r) := by
          have := hp.out; have qa := Ha.out; have qb := Hb.out
          rwa [List.take_of_length_le (by omega), List.take_of_length_le (by omega)] at this
        go_wp2_with fail
        go_ret
        exact ⟨_, _, rfl, ⟨fun _ => he.out, fun _ => rfl⟩, rfl⟩

theorem ref_equal (A B : Option Addr) (n m c d : Nat) (l r : List UInt8) (w : World) (hA : Rd w 1 A n (bvs l)) (hB : Rd w 1 B m (bvs r)) (hn : n ≤ 9223372036854775807) (hm : m ≤ 9223372036854775807) :
    Calls Try.prog 17 #[.slice A n c, .slice B m d] w fun e w' => e = .returned (.bool (decide (l = r))) ∧ ∃ k, w' = w.drewN k := by
  go_enter Try.func17, Try.ntmps17
  go_wp2_with fail
  refine (ref_compare A B n m c d l r _ hA hB hn hm).mono ?_
  rintro e w' ⟨x, k, rfl, hx, rfl⟩
  have Hx := hd hx; clear hx
  go_wp2_with fail
  go_ret
  exact ⟨ret_b (by rw [Bool.eq_iff_iff]; simpa using Hx.out), k, rfl⟩
end Go.Proofs.Ytlamdneheilahaa
