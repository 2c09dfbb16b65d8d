/- Plain: what the program and the document see of any bytes. -/
import Derived.Test.YtgbkkfpheahdfaaLsQBe
import Derived.Test.YtgbkkfpheahdfaaLsQSum01
import Derived.Test.YtgbkkfpheahdfaaFnsLookupSeesA
set_option linter.unusedVariables false
set_option linter.unusedSimpArgs false
namespace Go.Proofs.Ytgbkkfpheahdfaa.Pl
open Go
abbrev Adr := Int × (UInt64 × (UInt64 × Unit))
abbrev Pck := Adr × (Adr × (Int × (Int × (Int × Unit))))
abbrev Sn := Pck × (Int × (Bool × (Bool × (Int × Unit))))
abbrev zs : Sn := (((0, 0, 0, ()), (0, 0, 0, ()), 0, 0, 0, ()), 0, false, false, 0, ())
theorem wire_num (N : Nat) {b : List UInt8} {at_ w : Int} (hw : 1 ≤ w) (hw8 : w ≤ 8) (h0 : 0 ≤ at_) (ha : at_ ≤ 1000000) (hb : at_ + w ≤ (b.length : Int)) (hl : b.length ≤ 9223372036854775807) (hN : 8 < N) :
    wire_Number N b at_ w = some ((nbr ((b.drop at_.toNat).take w.toNat), true, ()), ()) := by
  obtain ⟨k, rfl⟩ := Int.eq_ofNat_of_zero_le h0
  obtain ⟨m, rfl⟩ := Int.eq_ofNat_of_zero_le (show 0 ≤ w by omega)
  have hs : cut b k (k + m) = (b.drop k).take m := cut_at b k m
  have hlen : ((b.drop k).take m).length = m := by simp; omega
  have e1 : ((k : Int) + (m : Int)).toNat = k + m := by omega
  unfold wire_Number wire_Number_1 wire_Slice wire_Slice_1
  simp (disch := omega) only [dpos, dneg, w64_of, inR_of, room_of, tmod_of, cond_true, cond_false, Bool.and_self, Bool.and_true, Bool.true_and, Bool.and_false, Bool.false_and, Bool.not_true, Bool.not_false, Option.bind_some, List.length_cons, List.length_nil, Nat.zero_add, Int.toNat_natCast, e1, hs]
  generalize (b.drop k).take m = s at hlen
  subst hlen
  unfold wire_Number_2
  refine (loopK_run (fun i : Nat => ((nbr (s.take i), s, (s.length : Int), (i : Int), ()), ())) (n := s.length) ?_ (e := ((nbr s, ()), ())) ?_ (by omega)).trans rfl
  · intro i hi
    show wire_Number_s3 N _ s _ _ = _
    unfold wire_Number_s3
    simp (disch := omega) only [dpos, dneg, w64_of, inR_of, room_of, tmod_of, cond_true, cond_false, Bool.and_self, Bool.and_true, Bool.true_and, Bool.and_false, Bool.false_and, Bool.not_true, Bool.not_false, Option.bind_some, List.length_cons, List.length_nil, Nat.zero_add, Int.toNat_natCast, nbr_take s hi, Int.natCast_add, Int.natCast_one]
  · show wire_Number_s3 N _ s _ _ = _
    unfold wire_Number_s3
    simp (disch := omega) only [dpos, dneg, w64_of, inR_of, room_of, tmod_of, cond_true, cond_false, Bool.and_self, Bool.and_true, Bool.true_and, Bool.and_false, Bool.false_and, Bool.not_true, Bool.not_false, Option.bind_some, List.length_cons, List.length_nil, Nat.zero_add, List.take_length]
theorem ref_num (N : Nat) {b : List UInt8} {at_ w : Int} (hw : 1 ≤ w) (hw8 : w ≤ 8) (h0 : 0 ≤ at_) (ha : at_ ≤ 1000000) (hb : at_ + w ≤ (b.length : Int)) (hl : b.length ≤ 9223372036854775807) (hN : 8 < N) :
    ref01_Number N b at_ w = some ((nbr ((b.drop at_.toNat).take w.toNat), true, ()), ()) := by
  obtain ⟨k, rfl⟩ := Int.eq_ofNat_of_zero_le h0
  obtain ⟨m, rfl⟩ := Int.eq_ofNat_of_zero_le (show 0 ≤ w by omega)
  have hlen : ((b.drop k).take m).length = m := by simp; omega
  unfold ref01_Number ref01_Number_1
  simp (disch := omega) only [dpos, dneg, w64_of, inR_of, room_of, tmod_of, cond_true, cond_false, Bool.and_self, Bool.and_true, Bool.true_and, Bool.and_false, Bool.false_and, Bool.not_true, Bool.not_false, Option.bind_some, List.length_cons, List.length_nil, Nat.zero_add, Int.toNat_natCast]
  unfold ref01_Number_2
  refine (loopK_run (fun i : Nat => ((b, (k : Int), (m : Int), nbr (((b.drop k).take m).take i), ((k + i : Nat) : Int), ()), ())) (n := m) ?_ (e := ((nbr ((b.drop k).take m), ()), ())) ?_ (by omega)).trans rfl
  · intro i hi
    have hg : ((b.drop k).take m).getD i 0 = b.getD (k + i) 0 := by
      simp [List.getD, hi]
    show ref01_Number_s3 N b k m _ _ = _
    unfold ref01_Number_s3
    simp (disch := omega) only [dpos, dneg, w64_of, inR_of, room_of, tmod_of, cond_true, cond_false, Bool.and_self, Bool.and_true, Bool.true_and, Bool.and_false, Bool.false_and, Bool.not_true, Bool.not_false, Option.bind_some, List.length_cons, List.length_nil, Nat.zero_add, Int.toNat_natCast, nbr_take _ (show i < ((b.drop k).take m).length by omega), hg]
    congr 5
  · show ref01_Number_s3 N b k m _ _ = _
    unfold ref01_Number_s3
    simp (disch := omega) only [dpos, dneg, w64_of, inR_of, room_of, tmod_of, cond_true, cond_false, Bool.and_self, Bool.and_true, Bool.true_and, Bool.and_false, Bool.false_and, Bool.not_true, Bool.not_false, Option.bind_some, List.length_cons, List.length_nil, Nat.zero_add]
    rw [List.take_of_length_le (by omega)]
/-- The number of w bytes from a place on. -/
def W (b : List UInt8) (k w : Int) : UInt64 := nbr ((b.drop k.toNat).take w.toNat)
theorem W_lt {b : List UInt8} {k w : Int} (h0 : 0 ≤ k) (hw : 1 ≤ w) (h2 : w ≤ 2) (hb : k + w ≤ (b.length : Int)) : ((W b k w).toNat : Int) ≤ 65535 ∧ 0 ≤ ((W b k w).toNat : Int) := by
  have hl : ((b.drop k.toNat).take w.toNat).length = w.toNat := by simp; omega
  have h := nbr_lt (k := w.toNat) (by omega) hl
  have hp : 256 ^ w.toNat ≤ 256 ^ 2 := Nat.pow_le_pow_right (by decide) (by omega)
  unfold W
  omega
theorem W_one {b : List UInt8} {k : Nat} (h : k < b.length) : (W b (k : Int) 1).toNat = (b.getD k 0).toNat := by
  unfold W
  have e : ((b.drop k).take 1) = [b.getD k 0] := by
    rw [List.drop_eq_getElem_cons h, List.take_succ_cons, List.take_zero, List.getD, List.getElem?_eq_getElem h]; rfl
  show (nbr ((b.drop ((k : Int)).toNat).take 1)).toNat = _
  rw [Int.toNat_natCast, e, nbr_nat (n := 1) rfl (by omega)]
  show 0 * 256 + (b.getD k 0).toNat = _
  omega
theorem and1 {x : Int} (h0 : 0 ≤ x) (h1 : x ≤ 65535) : and64 x 1 = x % 2 := by
  obtain ⟨n, rfl⟩ := Int.eq_ofNat_of_zero_le h0
  unfold and64
  have e : (BitVec.ofInt 64 (n : Int) &&& BitVec.ofInt 64 1).toNat = n % 2 := by
    rw [BitVec.toNat_and, BitVec.toNat_ofInt]
    have e1 : ((n : Int) % ((2 ^ 64 : Nat) : Int)).toNat = n := by omega
    have e2 : (BitVec.ofInt 64 1).toNat = 2 ^ 1 - 1 := rfl
    rw [e1, e2, Nat.and_two_pow_sub_one_eq_mod]
  rw [e, w64_of (by omega) (by omega)]
  omega
section
variable (N : Nat) (hN : 4611686018427387904 ≤ N) {b : List UInt8} (hl : b.length ≤ 9223372036854775807)
include hN hl
theorem cnum {k w : Int} (h0 : 0 ≤ k) (hk : k ≤ 1000) (hw : 1 ≤ w) (h8 : w ≤ 8) (hb : k + w ≤ (b.length : Int)) : lookup_cursor_number N (b, ()) k w = some ((W b k w, ()), ()) := by
  unfold lookup_cursor_number
  rw [wire_num N hw h8 h0 (by omega) hb hl (by omega)]; rfl
theorem cint {k w : Int} (h0 : 0 ≤ k) (hk : k ≤ 1000) (hw : 1 ≤ w) (h2 : w ≤ 2) (hb : k + w ≤ (b.length : Int)) : lookup_cursor_int N (b, ()) k w = some ((((W b k w).toNat : Int), ()), ()) := by
  unfold lookup_cursor_int
  have h := W_lt h0 hw h2 hb
  rw [cnum N hN hl h0 hk hw (by omega) hb, Option.bind_some]
  show some ((w64 ((W b k w).toNat : Int), ()), ()) = _
  rw [w64_of (by omega) (by omega)]
theorem rword {k : Int} (h0 : 0 ≤ k) (hk : k ≤ 1000) (hb : k + 2 ≤ (b.length : Int)) : ref22_word N b k = some ((((W b k 2).toNat : Int), ()), ()) := by
  unfold ref22_word
  have h := W_lt h0 (w := 2) (by omega) (by omega) hb
  rw [ref_num N (by omega) (by omega) h0 (by omega) hb hl (by omega), Option.bind_some]
  show some ((w64 ((W b k 2).toNat : Int), ()), ()) = _
  rw [w64_of (by omega) (by omega)]
theorem raddr4 {k : Int} (h0 : 0 ≤ k) (hk : k ≤ 1000) (hb : k + 4 ≤ (b.length : Int)) : ref05_GetAddress N b k 4 = some (((4, 0, W b k 4, ()), true, ()), ()) := by
  unfold ref05_GetAddress
  rw [ref_num N (by omega) (by omega) h0 (by omega) hb hl (by omega)]; rfl
theorem raddr6 {k : Int} (h0 : 0 ≤ k) (hk : k ≤ 900) (hb : k + 16 ≤ (b.length : Int)) : ref05_GetAddress N b k 6 = some (((6, W b k 8, W b (k + 8) 8, ()), true, ()), ()) := by
  unfold ref05_GetAddress
  rw [dneg (show ¬ (6 : Int) = 4 by decide), cond_false, ref_num N (by omega) (by omega) h0 (by omega) (by omega) hl (by omega), Option.bind_some, w64_of (by omega) (by omega), ref_num N (by omega) (by omega) (by omega) (by omega) (by omega) hl (by omega)]; rfl
theorem saddr6 {k : Int} (h0 : 0 ≤ k) (hk : k ≤ 900) (hb : k + 16 ≤ (b.length : Int)) : lookup_six_see_f1 N k (b, ()) = some (((6, W b k 8, W b (k + 8) 8, ()), ()), ()) := by
  unfold lookup_six_see_f1
  rw [cnum N hN hl h0 (by omega) (by omega) (by omega) (by omega), Option.bind_some, w64_of (by omega) (by omega), cnum N hN hl (by omega) (by omega) (by omega) (by omega) (by omega)]; rfl
theorem sum_eq {n : Nat} (hn : n ≤ 1000) : ∃ v, wire_Checksum N (cut b 0 n) = some ((v, ()), ()) ∧ ref01_Checksum N (cut b 0 n) = some ((v, ()), ()) := by
  obtain ⟨v, h1, h2, _⟩ := checksum_ok N hN (b := cut b 0 n) (by simp [cut]; omega)
  exact ⟨v, h1, h2⟩
theorem four_eq (h20 : 20 ≤ b.length) : ∃ s e, lookup_four_see N () (b, ()) = some ((s, e, ()), ()) ∧ ref22_four N b = some ((s, e, ()), ()) ∧ (e = 0 → 0 ≤ s.2.2.2.2.1 ∧ s.2.2.2.2.1 ≤ 60 ∧ s.2.2.2.2.1 ≤ (b.length : Int)) := by
  unfold lookup_four_see ref22_four
  have hi : inR (0 : Int) b.length = true := inR_of (by omega) (by omega)
  have hx : ((b.getD 0 0 &&& 15).toNat : Int) ≤ 15 := by
    have : (b.getD 0 0 &&& 15).toNat ≤ 15 := by rw [UInt8.toNat_and]; exact Nat.and_le_right
    omega
  have hw : w64 (((b.getD 0 0 &&& 15).toNat : Int) * 4) = ((b.getD 0 0 &&& 15).toNat : Int) * 4 := w64_of (by omega) (by omega)
  simp only [hi, cond_true, dneg (show ¬ (b.length : Int) < 20 by omega), cond_false, hw]
  obtain ⟨m, hm, hm2⟩ : ∃ m : Nat, ((b.getD 0 0 &&& 15).toNat : Int) * 4 = (m : Int) ∧ m ≤ 60 := ⟨(b.getD 0 0 &&& 15).toNat * 4, by omega, by omega⟩
  rw [hm]
  by_cases h1 : (m : Int) < 20
  · rw [dpos h1]; exact ⟨zs, 2, rfl, rfl, fun h => by omega⟩
  by_cases h2 : (b.length : Int) < (m : Int)
  · rw [dneg h1, dpos h2]; exact ⟨zs, 2, rfl, rfl, fun h => by omega⟩
  rw [dneg h1, dneg h2, cint N hN hl (by omega) (by omega) (by omega) (by omega) (by omega), rword N hN hl (by omega) (by omega) (by omega)]
  simp only [cond_false, Option.bind_some]
  unfold lookup_four_see_1 ref22_four_1
  by_cases h3 : ((W b 2 2).toNat : Int) = (b.length : Int)
  · rw [dpos h3]
    obtain ⟨v, c1, c2⟩ := sum_eq N hN hl (n := m) (by omega)
    simp only [Bool.not_true, cond_false, dpos (show (0 : Int) ≤ 0 by omega), dpos (show (0 : Int) ≤ (m : Int) by omega), dpos (show (m : Int) ≤ (b.length : Int) by omega), Bool.and_self, cond_true, Int.toNat_natCast, c1, c2, Option.bind_some]
    by_cases h4 : v = 0
    · rw [dpos h4]
      have h9 : (W b 9 1).toNat = (b.getD 9 0).toNat := W_one (k := 9) (by omega)
      simp only [Bool.not_true, cond_false, cint N hN hl (show (0 : Int) ≤ 6 by omega) (by omega) (show (1 : Int) ≤ 2 by omega) (by omega) (by omega), cint N hN hl (show (0 : Int) ≤ 9 by omega) (by omega) (show (1 : Int) ≤ 1 by omega) (by omega) (by omega), rword N hN hl (show (0 : Int) ≤ 6 by omega) (by omega) (by omega),
        cnum N hN hl (show (0 : Int) ≤ 12 by omega) (by omega) (show (1 : Int) ≤ 4 by omega) (by omega) (by omega), cnum N hN hl (show (0 : Int) ≤ 16 by omega) (by omega) (show (1 : Int) ≤ 4 by omega) (by omega) (by omega), raddr4 N hN hl (show (0 : Int) ≤ 12 by omega) (by omega) (by omega), raddr4 N hN hl (show (0 : Int) ≤ 16 by omega) (by omega) (by omega), Option.bind_some, inR_of (show (0 : Int) ≤ 9 by omega) (show (9 : Int) < (b.length : Int) by omega), cond_true, h9]
      exact ⟨_, _, rfl, rfl, fun _ => ⟨by simp only; omega, by simp only; omega, by simp only; omega⟩⟩
    · rw [dneg h4]; exact ⟨zs, 12, rfl, rfl, fun h => by omega⟩
  · rw [dneg h3]; exact ⟨zs, 2, rfl, rfl, fun h => by omega⟩
theorem six_eq (h40 : 40 ≤ b.length) (h48 : b.getD 6 0 = 44 → 48 ≤ b.length) (t : Sn) : ∃ s e, lookup_six_see N () (b, ()) = some ((s, e, ()), ()) ∧ ref22_six_1 N b false t = some ((s, e, ()), ()) ∧ (e = 0 → 0 ≤ s.2.2.2.2.1 ∧ s.2.2.2.2.1 ≤ 60 ∧ s.2.2.2.2.1 ≤ (b.length : Int)) := by
  unfold lookup_six_see ref22_six_1
  have hW := W_lt (b := b) (k := 4) (w := 2) (by omega) (by omega) (by omega) (by omega)
  rw [cint N hN hl (by omega) (by omega) (by omega) (by omega) (by omega), rword N hN hl (by omega) (by omega) (by omega)]
  simp only [cond_false, Option.bind_some]
  have hw1 : w64 (((W b 4 2).toNat : Int) + 40) = ((W b 4 2).toNat : Int) + 40 := w64_of (by omega) (by omega)
  have hw2 : w64 ((b.length : Int) - 40) = (b.length : Int) - 40 := w64_of (by omega) (by omega)
  rw [hw1, hw2]
  by_cases h1 : ((W b 4 2).toNat : Int) + 40 = (b.length : Int)
  · have h6 : (W b 6 1).toNat = (b.getD 6 0).toNat := W_one (k := 6) (by omega)
    rw [dpos h1, dpos (show ((W b 4 2).toNat : Int) = (b.length : Int) - 40 by omega)]
    simp only [Bool.not_true, cond_false, saddr6 N hN hl (show (0 : Int) ≤ 8 by omega) (by omega) (by omega), saddr6 N hN hl (show (0 : Int) ≤ 24 by omega) (by omega) (by omega), raddr6 N hN hl (show (0 : Int) ≤ 8 by omega) (by omega) (by omega), raddr6 N hN hl (show (0 : Int) ≤ 24 by omega) (by omega) (by omega), cint N hN hl (show (0 : Int) ≤ 6 by omega) (by omega) (show (1 : Int) ≤ 1 by omega) (by omega) (by omega), Option.bind_some, inR_of (show (0 : Int) ≤ 6 by omega) (show (6 : Int) < (b.length : Int) by omega), cond_true, h6]
    by_cases h2 : b.getD 6 0 = 44
    · have h48' := h48 h2
      have h40' : (W b 40 1).toNat = (b.getD 40 0).toNat := W_one (k := 40) (by omega)
      have hW2 := W_lt (b := b) (k := 42) (w := 2) (by omega) (by omega) (by omega) (by omega)
      have hd : decide (((b.getD 6 0).toNat : Int) = 44) = true := by rw [h2]; rfl
      rw [hd, dpos h2]
      simp only [cond_true, cint N hN hl (show (0 : Int) ≤ 42 by omega) (by omega) (show (1 : Int) ≤ 2 by omega) (by omega) (by omega), cint N hN hl (show (0 : Int) ≤ 40 by omega) (by omega) (show (1 : Int) ≤ 1 by omega) (by omega) (by omega), rword N hN hl (show (0 : Int) ≤ 42 by omega) (by omega) (by omega), Option.bind_some, inR_of (show (0 : Int) ≤ 40 by omega) (show (40 : Int) < (b.length : Int) by omega), h40', and1 hW2.2 hW2.1]
      have hm : (!(decide (((W b 42 2).toNat : Int) % 2 = 0))) = decide (((W b 42 2).toNat : Int) % 2 = 1) := by
        by_cases q : ((W b 42 2).toNat : Int) % 2 = 0
        · rw [dpos q, dneg (by omega)]; rfl
        · rw [dneg q, dpos (by omega)]; rfl
      rw [hm]
      exact ⟨_, _, rfl, rfl, fun _ => ⟨by simp only; omega, by simp only; omega, by simp only; omega⟩⟩
    · have hd : decide (((b.getD 6 0).toNat : Int) = 44) = false := dneg fun e => h2 (UInt8.toNat_inj.1 (by show (b.getD 6 0).toNat = 44; omega))
      rw [hd, dneg h2]
      exact ⟨_, _, rfl, rfl, fun _ => ⟨by simp only; omega, by simp only; omega, by simp only; omega⟩⟩
  · rw [dneg h1, dneg (show ¬ ((W b 4 2).toNat : Int) = (b.length : Int) - 40 by omega)]
    exact ⟨zs, 2, rfl, rfl, fun h => by omega⟩
end
end Go.Proofs.Ytgbkkfpheahdfaa.Pl
