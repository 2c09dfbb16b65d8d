/- Numbers read out of bytes: the program's wire.Number and the reference's; the reference's Put. -/
import Derived.Test.YtlamdneheilahaaEq
import Derived.Test.YtlamdneheilahaaDiv
namespace Go.Proofs.Ytlamdneheilahaa
open Go.RowKit

/-- The number that bytes are, the highest first. -/
def val (l : List UInt8) : Nat := l.foldl (fun v b => v * 256 + b.toNat) 0
theorem val_snoc (l : List UInt8) (b : UInt8) : val (l ++ [b]) = val l * 256 + b.toNat := by simp [val]
theorem val_lt (l : List UInt8) : val l < 256 ^ l.length := by
  suffices h : ∀ (l : List UInt8) (r : List UInt8), l = r.reverse → val l < 256 ^ l.length from h l l.reverse (by simp)
  intro l r
  induction r generalizing l with
  | nil => rintro rfl; simp [val]
  | cons b r ih =>
    rintro rfl
    rw [List.reverse_cons, val_snoc, List.length_append, Nat.pow_add]
    have h1 := ih _ rfl
    have h2 := b.toNat_lt
    simp only [List.length_cons, List.length_nil, Nat.zero_add, Nat.pow_one]
    omega
theorem or_byte (v r : Int) (v0 : 0 ≤ v) (v1 : v < 72057594037927936) (r0 : 0 ≤ r) (r1 : r < 256) : bits .or .u64 (v * 256) r = v * 256 + r := by
  rw [u64_or _ _ (by omega) (by omega) (by omega) (by omega), nat_join 8 _ _ (by omega) (by omega)]
  omega

/-- P1.1 on lists: none where a place is outside. -/
def num? (l : List UInt8) (at_ width : Int) : Option Nat :=
  if 1 ≤ width ∧ width ≤ 8 ∧ 0 ≤ at_ ∧ at_ + width ≤ l.length then some (val ((l.drop at_.toNat).take width.toNat)) else none

set_option maxHeartbeats 2000000 in
theorem wire_slice (A : Option Addr) (n c : Nat) (l : List UInt8) (at_ k : Int) (w : World) (hA : Rd w 1 A n (bvs l)) (hn : n ≤ c) (hm : c ≤ 9223372036854775807) (h0 : 0 ≤ at_) (h1 : 0 ≤ k) (h2 : at_ + k ≤ n) :
    Calls Try.prog 59 #[.slice A n c, .int .i64 at_, .int .i64 k] w fun e w' => (∃ B, e = .returned (.tuple #[.slice B k.toNat k.toNat, .bool true]) ∧ Rd w 1 B k.toNat (bvs ((l.drop at_.toNat).take k.toNat))) ∧ w = w' := by
  obtain ⟨i, rfl⟩ := Int.eq_ofNat_of_zero_le h0
  obtain ⟨j, rfl⟩ := Int.eq_ofNat_of_zero_le h1
  go_enter Try.func59, Try.ntmps59
  go_wp2_with fail
  · have hj : j = 0 := by omega
    subst hj
    go_ret2
    exact ⟨⟨A, rfl, by simpa using Rd.nil w 1 A⟩, rfl⟩
  · have hr := (hA.drop (k := i) (cap := c) (by omega) hn).take (k := j) (by omega)
    rw [if_neg (by omega)] at hr
    go_ret2
    exact ⟨⟨_, rfl, by simpa using hr⟩, rfl⟩

/-- Where a place is outside: false. -/
theorem wire_slice_no (A : Option Addr) (n c : Nat) (at_ k : Int) (w : World) (a0 : -9223372036854775808 ≤ at_) (a1 : at_ ≤ 9223372036854775807) (k0 : -9223372036854775808 ≤ k) (k1 : k ≤ 9223372036854775807) (hn : n ≤ 9223372036854775807) (h : ¬ (0 ≤ at_ ∧ 0 ≤ k ∧ at_ + k ≤ n)) :
    Calls Try.prog 59 #[.slice A n c, .int .i64 at_, .int .i64 k] w fun e w' => e = .returned (.tuple #[.slice none 0 0, .bool false]) ∧ w = w' := by
  go_enter Try.func59, Try.ntmps59
  by_cases h1 : at_ < 0
  · go_wp2_with fail
    go_ret2
    exact ⟨rfl, rfl⟩
  · by_cases h2 : k < 0
    · go_wp2_with fail
      go_ret2
      exact ⟨rfl, rfl⟩
    · by_cases h3 : (n : Int) < at_
      · go_wp2_with fail
        go_ret2
        exact ⟨rfl, rfl⟩
      · have h4 : (n : Int) - at_ < k := by omega
        go_wp2_with fail
        go_ret2
        exact ⟨rfl, rfl⟩

theorem val_step (r : List UInt8) (i : Nat) (hi : i < r.length) (h8 : r.length ≤ 8) (x : Int) (hx : ((r.getD i 0).toNat : Int) = x) :
    bits .or .u64 (IntKind.u64.wrap ((val (r.take i) : Int) * 256)) x = (val (r.take (i + 1)) : Int) := by
  have h1 := val_lt (r.take i)
  have h2 : (r.take i).length = i := by simp; omega
  rw [h2] at h1
  have h3 : val (r.take i) < 72057594037927936 := Nat.lt_of_lt_of_le h1 (Nat.le_trans (Nat.pow_le_pow_right (by decide) (show i ≤ 7 by omega)) (by decide))
  have h4 := (r.getD i 0).toNat_lt
  rw [IntKind.wrap_u64, Int.emod_eq_of_lt (by omega) (by omega), or_byte _ _ (by omega) (by omega) (by omega) (by omega), List.take_add_one, List.getElem?_eq_getElem hi]
  simp only [List.getD, List.getElem?_eq_getElem hi, Option.getD_some] at hx
  simp only [Option.toList_some, val_snoc]
  omega

set_option maxHeartbeats 2000000 in
theorem wire_number (A : Option Addr) (n c : Nat) (l : List UInt8) (at_ k : Int) (w : World) (hA : Rd w 1 A n (bvs l)) (hn : n ≤ c) (hm : c ≤ 9223372036854775807) (h0 : 0 ≤ at_) (h1 : 1 ≤ k) (h8 : k ≤ 8) (h2 : at_ + k ≤ n) :
    Calls Try.prog 53 #[.slice A n c, .int .i64 at_, .int .i64 k] w fun e w' => e = .returned (.tuple #[.int .u64 (val ((l.drop at_.toNat).take k.toNat) : Int), .bool true]) ∧ w = w' := by
  obtain ⟨r, hr⟩ : ∃ r, (l.drop at_.toNat).take k.toNat = r := ⟨_, rfl⟩
  have hlen : r.length = k.toNat := by rw [← hr]; have := hA.lenB; simp; omega
  obtain ⟨K, rfl⟩ := Int.eq_ofNat_of_zero_le (show 0 ≤ k by omega)
  simp only [Int.toNat_natCast] at hlen hr ⊢
  rw [hr]
  go_enter Try.func53, Try.ntmps53
  go_wp2_with fail
  refine (wire_slice A n c l at_ K _ hA hn hm h0 (by omega) h2).mono ?_
  simp only [Int.toNat_natCast]
  rintro e w' ⟨⟨B, rfl, hB⟩, rfl⟩
  rw [hr] at hB
  have Hl := hd hlen
  clear hr hlen
  go_wp2_with fail
  go_loop [10, 30] (fun v i => ∃ j : Nat, j ≤ K ∧ i = .int .i64 j ∧ v = .int .u64 (val (r.take j) : Int)) (fun _ i => K - (intOf i).toNat)
  case atStart => exact ⟨0, by omega, rfl, rfl⟩
  case round =>
    obtain ⟨j, hj, rfl, rfl⟩ := hrel
    by_cases hlt : j < K
    · obtain ⟨b, o, rfl, hb, hc⟩ := hB.atB (by omega)
      have hcell := hc j hlt
      obtain ⟨x, hx⟩ : ∃ x, ((r.getD j 0).toNat : Int) = x := ⟨_, rfl⟩
      have hst := val_step r j (by have := Hl.out; omega) (by have := Hl.out; omega) x hx
      have x0 : 0 ≤ x := by omega
      have x1 : x ≤ 255 := by have := (r.getD j 0).toNat_lt; omega
      rw [hx] at hcell
      clear hc hx
      go_wp2_with fail
      go_round
      case rel => exact ⟨j + 1, by omega, by go_num, rfl⟩
      case measure => simp [intOf] <;> omega
    · obtain rfl : j = K := by omega
      have hf : r.take j = r := List.take_of_length_le (by have := Hl.out; omega)
      rw [hf]
      clear hf
      go_wp2_with fail
      go_ret2
      exact ⟨rfl, rfl⟩

theorem wire_number_no (A : Option Addr) (n c : Nat) (at_ k : Int) (w : World) (a0 : -9223372036854775808 ≤ at_) (a1 : at_ ≤ 9223372036854775807) (k0 : -9223372036854775808 ≤ k) (k1 : k ≤ 9223372036854775807) (hn : n ≤ 9223372036854775807) (h : ¬ (1 ≤ k ∧ k ≤ 8 ∧ 0 ≤ at_ ∧ at_ + k ≤ n)) :
    Calls Try.prog 53 #[.slice A n c, .int .i64 at_, .int .i64 k] w fun e w' => e = .returned (.tuple #[.int .u64 0, .bool false]) ∧ w = w' := by
  by_cases h1 : k < 1
  · go_enter Try.func53, Try.ntmps53
    go_wp2_with fail
    go_ret2
    exact ⟨rfl, rfl⟩
  · by_cases h2 : 8 < k
    · go_enter Try.func53, Try.ntmps53
      go_wp2_with fail
      go_ret2
      exact ⟨rfl, rfl⟩
    · go_enter Try.func53, Try.ntmps53
      go_wp2_with fail
      refine (wire_slice_no A n c at_ k _ a0 a1 k0 k1 hn (by omega)).mono ?_
      rintro e w' ⟨rfl, rfl⟩
      go_wp2_with fail
      go_ret2
      exact ⟨rfl, rfl⟩

set_option maxHeartbeats 2000000 in
theorem ref_number (A : Option Addr) (n c : Nat) (l : List UInt8) (at_ k : Int) (w : World) (hA : Rd w 1 A n (bvs l)) (hm : n ≤ 9223372036854775807) (h0 : 0 ≤ at_) (h1 : 1 ≤ k) (h8 : k ≤ 8) (h2 : at_ + k ≤ n) :
    Calls Try.prog 54 #[.slice A n c, .int .i64 at_, .int .i64 k] w fun e w' => e = .returned (.tuple #[.int .u64 (val ((l.drop at_.toNat).take k.toNat) : Int), .bool true]) ∧ w = w' := by
  obtain ⟨r, hr⟩ : ∃ r, (l.drop at_.toNat).take k.toNat = r := ⟨_, rfl⟩
  have hlen : r.length = k.toNat := by rw [← hr]; have := hA.lenB; simp; omega
  obtain ⟨K, rfl⟩ := Int.eq_ofNat_of_zero_le (show 0 ≤ k by omega)
  obtain ⟨I, rfl⟩ := Int.eq_ofNat_of_zero_le h0
  simp only [Int.toNat_natCast] at hlen hr ⊢
  rw [hr]
  obtain ⟨b, o, rfl, hb, hc⟩ := hA.atB (by omega)
  have hcell : ∀ j, j < K → w.cell? ⟨b, o + (I + j), none⟩ = some (.int .u8 ((r.getD j 0).toNat : Int)) := by
    intro j hj
    rw [hc (I + j) (by omega), ← hr]
    simp [List.getD, List.getElem?_take, List.getElem?_drop, hj]
  have Hl := hd hlen
  have Hc := hd hcell
  clear hr hlen hcell hc hA
  go_enter Try.func54, Try.ntmps54
  go_wp2_with fail
  go_loop [8, 9] (fun v i => ∃ j : Nat, j ≤ K ∧ i = .int .i64 (I + j : Nat) ∧ v = .int .u64 (val (r.take j) : Int)) (fun _ i => I + K - (intOf i).toNat)
  case atStart => exact ⟨0, by omega, rfl, rfl⟩
  case round =>
    obtain ⟨j, hj, rfl, rfl⟩ := hrel
    by_cases hlt : j < K
    · have hcell := Hc.out j hlt
      obtain ⟨x, hx⟩ : ∃ x, ((r.getD j 0).toNat : Int) = x := ⟨_, rfl⟩
      have hst := val_step r j (by have := Hl.out; omega) (by have := Hl.out; omega) x hx
      have x0 : 0 ≤ x := by omega
      have x1 : x ≤ 255 := by have := (r.getD j 0).toNat_lt; omega
      rw [hx] at hcell
      clear hx
      go_wp2_with fail
      go_round
      case rel => exact ⟨j + 1, by omega, by go_num, rfl⟩
      case measure => simp [intOf] <;> omega
    · obtain rfl : j = K := by omega
      have hf : r.take j = r := List.take_of_length_le (by have := Hl.out; omega)
      rw [hf]
      clear hf
      go_wp2_with fail
      go_ret2
      exact ⟨rfl, rfl⟩

theorem ref_number_no (A : Option Addr) (n c : Nat) (at_ k : Int) (w : World) (a0 : -9223372036854775808 ≤ at_) (a1 : at_ ≤ 9223372036854775807) (k0 : -9223372036854775808 ≤ k) (k1 : k ≤ 9223372036854775807) (hn : n ≤ 9223372036854775807) (h : ¬ (1 ≤ k ∧ k ≤ 8 ∧ 0 ≤ at_ ∧ at_ + k ≤ n)) :
    Calls Try.prog 54 #[.slice A n c, .int .i64 at_, .int .i64 k] w fun e w' => e = .returned (.tuple #[.int .u64 0, .bool false]) ∧ w = w' := by
  by_cases h1 : k < 1
  · go_enter Try.func54, Try.ntmps54
    go_wp2_with fail
    go_ret2
    exact ⟨rfl, rfl⟩
  · by_cases h2 : 8 < k
    · go_enter Try.func54, Try.ntmps54
      go_wp2_with fail
      go_ret2
      exact ⟨rfl, rfl⟩
    · by_cases h3 : at_ < 0
      · go_enter Try.func54, Try.ntmps54
        go_wp2_with fail
        go_ret2
        exact ⟨rfl, rfl⟩
      · by_cases h4 : (n : Int) < at_
        · go_enter Try.func54, Try.ntmps54
          go_wp2_with fail
          go_ret2
          exact ⟨rfl, rfl⟩
        · have h5 : (n : Int) - at_ < k := by omega
          go_enter Try.func54, Try.ntmps54
          go_wp2_with fail
          go_ret2
          exact ⟨rfl, rfl⟩
end Go.Proofs.Ytlamdneheilahaa
