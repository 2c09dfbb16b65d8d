/- Plain: SHA-256, the program's and the reference's: both are one function of the bytes. -/
import Derived.Test.YtofajgidjkjnpaaDoorScQWords
import Derived.Test.YtofajgidjkjnpaaDoorFnsSchnorrSignsA
set_option linter.unusedVariables false
set_option linter.unusedSimpArgs false
namespace Go.Proofs.YtofajgidjkjnpaaDoor.Pl
open Go
noncomputable section
def rotr (x : UInt32) (n : Nat) : UInt32 := shl32 x (32 - n) ||| shr32 x n
theorem right2 (N : Nat) (x : UInt32) : sha256_right N x (2 : Int) = some ((rotr x 2, ()), ()) := by kernel_rfl
theorem right6 (N : Nat) (x : UInt32) : sha256_right N x (6 : Int) = some ((rotr x 6, ()), ()) := by kernel_rfl
theorem right7 (N : Nat) (x : UInt32) : sha256_right N x (7 : Int) = some ((rotr x 7, ()), ()) := by kernel_rfl
theorem right11 (N : Nat) (x : UInt32) : sha256_right N x (11 : Int) = some ((rotr x 11, ()), ()) := by kernel_rfl
theorem right13 (N : Nat) (x : UInt32) : sha256_right N x (13 : Int) = some ((rotr x 13, ()), ()) := by kernel_rfl
theorem right17 (N : Nat) (x : UInt32) : sha256_right N x (17 : Int) = some ((rotr x 17, ()), ()) := by kernel_rfl
theorem right18 (N : Nat) (x : UInt32) : sha256_right N x (18 : Int) = some ((rotr x 18, ()), ()) := by kernel_rfl
theorem right19 (N : Nat) (x : UInt32) : sha256_right N x (19 : Int) = some ((rotr x 19, ()), ()) := by kernel_rfl
theorem right22 (N : Nat) (x : UInt32) : sha256_right N x (22 : Int) = some ((rotr x 22, ()), ()) := by kernel_rfl
theorem right25 (N : Nat) (x : UInt32) : sha256_right N x (25 : Int) = some ((rotr x 25, ()), ()) := by kernel_rfl
theorem turn_of {N : Nat} {x : UInt32} {n : UInt64} {k : Nat} (h : ref08_turn N x n = some ((shr32 x k ||| shl32 x (32 - k), ()), ())) : ref08_turn N x n = some ((rotr x k, ()), ()) := by
  rw [h, UInt32.or_comm]; rfl
theorem turn2 (N : Nat) (x : UInt32) : ref08_turn N x (2 : UInt64) = some ((rotr x 2, ()), ()) := turn_of (by kernel_rfl)
theorem turn6 (N : Nat) (x : UInt32) : ref08_turn N x (6 : UInt64) = some ((rotr x 6, ()), ()) := turn_of (by kernel_rfl)
theorem turn7 (N : Nat) (x : UInt32) : ref08_turn N x (7 : UInt64) = some ((rotr x 7, ()), ()) := turn_of (by kernel_rfl)
theorem turn11 (N : Nat) (x : UInt32) : ref08_turn N x (11 : UInt64) = some ((rotr x 11, ()), ()) := turn_of (by kernel_rfl)
theorem turn13 (N : Nat) (x : UInt32) : ref08_turn N x (13 : UInt64) = some ((rotr x 13, ()), ()) := turn_of (by kernel_rfl)
theorem turn17 (N : Nat) (x : UInt32) : ref08_turn N x (17 : UInt64) = some ((rotr x 17, ()), ()) := turn_of (by kernel_rfl)
theorem turn18 (N : Nat) (x : UInt32) : ref08_turn N x (18 : UInt64) = some ((rotr x 18, ()), ()) := turn_of (by kernel_rfl)
theorem turn19 (N : Nat) (x : UInt32) : ref08_turn N x (19 : UInt64) = some ((rotr x 19, ()), ()) := turn_of (by kernel_rfl)
theorem turn22 (N : Nat) (x : UInt32) : ref08_turn N x (22 : UInt64) = some ((rotr x 22, ()), ()) := turn_of (by kernel_rfl)
theorem turn25 (N : Nat) (x : UInt32) : ref08_turn N x (25 : UInt64) = some ((rotr x 25, ()), ()) := turn_of (by kernel_rfl)

/-- The word t of the schedule. -/
def sst (block : List UInt8) (w : List UInt32) (t : Nat) : UInt32 :=
  if t < 16 then (nbr ((block.drop (4 * (t : Int)).toNat).take (4 : Int).toNat)).toUInt32
  else ((((rotr (w.getD ((t : Int) - 2).toNat 0) 17 ^^^ rotr (w.getD ((t : Int) - 2).toNat 0) 19) ^^^ shr32 (w.getD ((t : Int) - 2).toNat 0) 10) + w.getD ((t : Int) - 7).toNat 0) +
    ((rotr (w.getD ((t : Int) - 15).toNat 0) 7 ^^^ rotr (w.getD ((t : Int) - 15).toNat 0) 18) ^^^ shr32 (w.getD ((t : Int) - 15).toNat 0) 3)) + w.getD ((t : Int) - 16).toNat 0
def sw (block : List UInt8) : Nat → List UInt32
  | 0 => List.replicate 64 0
  | t + 1 => (sw block t).set t (sst block (sw block t) t)
theorem sched (N : Nat) {block : List UInt8} (hb : block.length = 64) (hN : 4611686018427387904 ≤ N) : sha256_schedule N block = some ((sw block 64, ()), ()) := by
  unfold sha256_schedule sha256_schedule_1
  refine (loopK_run (fun t : Nat => ((block, (t : Int), ()), (List.replicate 64 0, sw block t, ()))) (n := 64) ?_ (e := ((), (List.replicate 64 0, sw block 64, ()))) ?_ (by omega)).trans ?_
  · intro t ht
    show sha256_schedule_s2 N block _ _ _ = _
    unfold sha256_schedule_s2
    by_cases h16 : t < 16
    · simp (disch := omega) only [dpos, dneg, w64_of, inR_of, room_of, tmod_of, cond_true, cond_false, Bool.and_self, Bool.and_true, Bool.true_and, Bool.and_false, Bool.false_and, Bool.not_true, Bool.not_false, Option.bind_some, List.length_cons, List.length_nil, Nat.zero_add, wire_number, Int.toNat_natCast, sw, sst, if_pos, Int.natCast_add, Int.natCast_one]
    · simp (disch := omega) only [dpos, dneg, w64_of, inR_of, room_of, tmod_of, cond_true, cond_false, Bool.and_self, Bool.and_true, Bool.true_and, Bool.and_false, Bool.false_and, Bool.not_true, Bool.not_false, Option.bind_some, List.length_cons, List.length_nil, Nat.zero_add, right17, right19, right7, right18, Int.toNat_natCast, sw, sst, if_neg, Int.natCast_add, Int.natCast_one]
  · show sha256_schedule_s2 N block _ _ _ = _
    unfold sha256_schedule_s2
    simp (disch := omega) only [dpos, dneg, w64_of, inR_of, room_of, tmod_of, cond_true, cond_false, Bool.and_self, Bool.and_true, Bool.true_and, Bool.and_false, Bool.false_and, Bool.not_true, Bool.not_false, Option.bind_some, List.length_cons, List.length_nil, Nat.zero_add]
  · simp only [sha256_schedule_3]

/-- A round. -/
def nx (k w : UInt32) : List UInt32 → List UInt32
  | [a, b, c, d, e, f, g, h] => [((((h + ((rotr e 6 ^^^ rotr e 11) ^^^ rotr e 25)) + ((e &&& f) ^^^ ((~~~ e) &&& g))) + k) + w) + (((rotr a 2 ^^^ rotr a 13) ^^^ rotr a 22) + (((a &&& b) ^^^ (a &&& c)) ^^^ (b &&& c))), a, b, c,
      d + ((((h + ((rotr e 6 ^^^ rotr e 11) ^^^ rotr e 25)) + ((e &&& f) ^^^ ((~~~ e) &&& g))) + k) + w), e, f, g]
  | l => l
def rd (w st : List UInt32) : Nat → List UInt32
  | 0 => st
  | t + 1 => nx (g_sha256_constants.getD t 0) (w.getD t 0) (rd w st t)
theorem list8 {α : Type} {l : List α} (h : l.length = 8) : ∃ a b c d e f g i, l = [a, b, c, d, e, f, g, i] := by
  match l, h with
  | [a, b, c, d, e, f, g, i], _ => exact ⟨a, b, c, d, e, f, g, i, rfl⟩
theorem nx_len (k w : UInt32) {l : List UInt32} (h : l.length = 8) : (nx k w l).length = 8 := by
  obtain ⟨a, b, c, d, e, f, g, i, rfl⟩ := list8 h; rfl
theorem rd_len (w : List UInt32) {st : List UInt32} (h : st.length = 8) (t : Nat) : (rd w st t).length = 8 := by
  induction t with
  | zero => exact h
  | succ t ih => exact nx_len _ _ ih
def add8 (l m : List UInt32) : List UInt32 := List.zipWith (· + ·) l m
def blk (st : List UInt32) (block : List UInt8) : List UInt32 := add8 st (rd (sw block 64) st 64)
theorem blk_len {st : List UInt32} (h : st.length = 8) (block : List UInt8) : (blk st block).length = 8 := by
  simp [blk, add8, h, rd_len _ h]
theorem sha_fin (M : Nat) (a b c d e f g h s0 s1 s2 s3 s4 s5 s6 s7 : UInt32) (t : List UInt32) :
    sha256_Block_4 (M + 9) [a, b, c, d, e, f, g, h] 0 [s0, s1, s2, s3, s4, s5, s6, s7] t = some (([s0 + a, s1 + b, s2 + c, s3 + d, s4 + e, s5 + f, s6 + g, s7 + h], true, ()), ()) := by kernel_rfl
theorem ref_fin (M : Nat) (a b c d e f g h s0 s1 s2 s3 s4 s5 s6 s7 : UInt32) (t : List UInt32) :
    ref08_Block_7 (M + 9) 0 [s0, s1, s2, s3, s4, s5, s6, s7] t [a, b, c, d, e, f, g, h] = some (([a + s0, b + s1, c + s2, d + s3, e + s4, f + s5, g + s6, h + s7], true, ()), ()) := by kernel_rfl
theorem sha_block (N : Nat) {st : List UInt32} {block : List UInt8} (hs : st.length = 8) (hb : block.length = 64) (hN : 4611686018427387904 ≤ N) : sha256_Block N st block = some ((blk st block, true, ()), ()) := by
  unfold sha256_Block
  simp (disch := omega) only [dpos, dneg, w64_of, inR_of, room_of, tmod_of, cond_true, cond_false, Bool.and_self, Bool.and_true, Bool.true_and, Bool.and_false, Bool.false_and, Bool.not_true, Bool.not_false, Option.bind_some, List.length_cons, List.length_nil, Nat.zero_add, sched]
  unfold sha256_Block_1
  have h8 := rd_len (sw block 64) hs
  refine (loopK_run (fun t : Nat => (((rd (sw block 64) st t).getD 0 0, (rd (sw block 64) st t).getD 1 0, (rd (sw block 64) st t).getD 2 0, (rd (sw block 64) st t).getD 3 0, (rd (sw block 64) st t).getD 4 0, (rd (sw block 64) st t).getD 5 0, (rd (sw block 64) st t).getD 6 0, (rd (sw block 64) st t).getD 7 0, sw block 64, (t : Int), ()), (st, List.replicate 8 0, ()))) (n := 64) ?_
    (e := (((rd (sw block 64) st 64).getD 0 0, (rd (sw block 64) st 64).getD 1 0, (rd (sw block 64) st 64).getD 2 0, (rd (sw block 64) st 64).getD 3 0, (rd (sw block 64) st 64).getD 4 0, (rd (sw block 64) st 64).getD 5 0, (rd (sw block 64) st 64).getD 6 0, (rd (sw block 64) st 64).getD 7 0, ()), (st, List.replicate 8 0, ()))) ?_ (by omega)).trans ?_
  · intro t ht
    show sha256_Block_s2 N _ _ _ _ _ _ _ _ _ _ _ _ = _
    simp only [rd]
    obtain ⟨a, b, c, d, e, f, g, h, e1⟩ := list8 (h8 t)
    rw [e1]
    unfold sha256_Block_s2
    simp (disch := omega) only [dpos, dneg, w64_of, inR_of, room_of, tmod_of, cond_true, cond_false, Bool.and_self, Bool.and_true, Bool.true_and, Bool.and_false, Bool.false_and, Bool.not_true, Bool.not_false, Option.bind_some, List.length_cons, List.length_nil, Nat.zero_add, right2, right6, right11, right13, right22, right25, Int.toNat_natCast, nx, List.getD_cons_zero, List.getD_cons_succ, Int.natCast_add, Int.natCast_one]
  · show sha256_Block_s2 N _ _ _ _ _ _ _ _ _ _ _ _ = _
    unfold sha256_Block_s2
    simp (disch := omega) only [dpos, dneg, w64_of, inR_of, room_of, tmod_of, cond_true, cond_false, Bool.and_self, Bool.and_true, Bool.true_and, Bool.and_false, Bool.false_and, Bool.not_true, Bool.not_false, Option.bind_some, List.length_cons, List.length_nil, Nat.zero_add]
  · obtain ⟨a, b, c, d, e, f, g, h, e1⟩ := list8 (h8 64)
    obtain ⟨s0, s1, s2, s3, s4, s5, s6, s7, rfl⟩ := list8 hs
    obtain ⟨M, rfl⟩ := Nat.exists_eq_add_of_le' (show 9 ≤ N by omega)
    show sha256_Block_3 _ _ _ _ _ _ _ _ _ _ _ = _
    unfold sha256_Block_3
    simp only [blk, e1, List.getD_cons_zero, List.getD_cons_succ]
    rw [sha_fin]
    rfl
theorem constants_ok (N : Nat) : ref08_constants N = some ((g_sha256_constants, ()), ()) := by kernel_rfl
theorem ref_block (N : Nat) {st : List UInt32} {block : List UInt8} (hs : st.length = 8) (hb : block.length = 64) (hN : 4611686018427387904 ≤ N) : ref08_Block N st block = some ((blk st block, true, ()), ()) := by
  unfold ref08_Block
  simp (disch := omega) only [dpos, dneg, w64_of, inR_of, room_of, tmod_of, cond_true, cond_false, Bool.and_self, Bool.and_true, Bool.true_and, Bool.and_false, Bool.false_and, Bool.not_true, Bool.not_false, Option.bind_some, List.length_cons, List.length_nil, Nat.zero_add]
  unfold ref08_Block_1
  refine (loopK_run (fun t : Nat => ((block, (t : Int), ()), (st, List.replicate 8 0, sw block t, ()))) (n := 64) ?_ (e := ((), (st, List.replicate 8 0, sw block 64, ()))) ?_ (by omega)).trans ?_
  · intro t ht
    show ref08_Block_s2 N block _ _ _ _ = _
    unfold ref08_Block_s2
    by_cases h16 : t < 16
    · simp (disch := omega) only [dpos, dneg, w64_of, inR_of, room_of, tmod_of, cond_true, cond_false, Bool.and_self, Bool.and_true, Bool.true_and, Bool.and_false, Bool.false_and, Bool.not_true, Bool.not_false, Option.bind_some, List.length_cons, List.length_nil, Nat.zero_add, ref_number, Int.toNat_natCast, sw, sst, if_pos, Int.natCast_add, Int.natCast_one]
    · simp (disch := omega) only [dpos, dneg, w64_of, inR_of, room_of, tmod_of, cond_true, cond_false, Bool.and_self, Bool.and_true, Bool.true_and, Bool.and_false, Bool.false_and, Bool.not_true, Bool.not_false, Option.bind_some, List.length_cons, List.length_nil, Nat.zero_add, turn17, turn19, turn7, turn18, Int.toNat_natCast, sw, sst, if_neg, Int.natCast_add, Int.natCast_one]
  · show ref08_Block_s2 N block _ _ _ _ = _
    unfold ref08_Block_s2
    simp (disch := omega) only [dpos, dneg, w64_of, inR_of, room_of, tmod_of, cond_true, cond_false, Bool.and_self, Bool.and_true, Bool.true_and, Bool.and_false, Bool.false_and, Bool.not_true, Bool.not_false, Option.bind_some, List.length_cons, List.length_nil, Nat.zero_add]
  have h8 := rd_len (sw block 64) hs
  revert h8
  generalize hblk : blk st block = out
  unfold blk at hblk
  generalize sw block 64 = ww at hblk
  intro h8
  show ref08_Block_3 N st (List.replicate 8 0) ww = _
  unfold ref08_Block_3
  rw [constants_ok, Option.bind_some]
  unfold ref08_Block_4
  refine (loopK_run (fun t : Nat => (((t : Int), ()), (st, List.replicate 8 0, ww, g_sha256_constants, rd ww st t, ()))) (n := 64) ?_ (e := ((), (st, List.replicate 8 0, rd ww st 64, ()))) ?_ (by omega)).trans ?_
  · intro t ht
    show ref08_Block_s5 N _ _ _ _ _ _ = _
    simp only [rd]
    obtain ⟨a, b, c, d, e, f, g, h, e1⟩ := list8 (h8 t)
    rw [e1]
    unfold ref08_Block_s5
    simp (disch := omega) only [dpos, dneg, w64_of, inR_of, room_of, tmod_of, cond_true, cond_false, Bool.and_self, Bool.and_true, Bool.true_and, Bool.and_false, Bool.false_and, Bool.not_true, Bool.not_false, Option.bind_some, List.length_cons, List.length_nil, Nat.zero_add, turn2, turn6, turn11, turn13, turn22, turn25, Int.toNat_natCast, nx, List.getD_cons_zero, List.getD_cons_succ, Int.natCast_add, Int.natCast_one]
  · show ref08_Block_s5 N _ _ _ _ _ _ = _
    unfold ref08_Block_s5
    simp (disch := omega) only [dpos, dneg, w64_of, inR_of, room_of, tmod_of, cond_true, cond_false, Bool.and_self, Bool.and_true, Bool.true_and, Bool.and_false, Bool.false_and, Bool.not_true, Bool.not_false, Option.bind_some, List.length_cons, List.length_nil, Nat.zero_add]
  · obtain ⟨a, b, c, d, e, f, g, h, e1⟩ := list8 (h8 64)
    obtain ⟨s0, s1, s2, s3, s4, s5, s6, s7, rfl⟩ := list8 hs
    obtain ⟨M, rfl⟩ := Nat.exists_eq_add_of_le' (show 9 ≤ N by omega)
    show ref08_Block_6 _ _ _ _ = _
    unfold ref08_Block_6
    rw [e1] at hblk ⊢
    rw [ref_fin, ← hblk]
    show some (([_, _, _, _, _, _, _, _], true, ()), ()) = some (([_, _, _, _, _, _, _, _], true, ()), ())
    rw [UInt32.add_comm a, UInt32.add_comm b, UInt32.add_comm c, UInt32.add_comm d, UInt32.add_comm e, UInt32.add_comm f, UInt32.add_comm g, UInt32.add_comm h]

/-- What follows a message of n bytes. -/
def pad (n : Nat) : List UInt8 := (128 :: List.replicate ((119 - n % 64) % 64) 0) ++ be (iu64 (n : Int) * 8) 8
theorem pad_len (n : Nat) : (pad n).length = 9 + (119 - n % 64) % 64 := by simp [pad, be_len]; omega
theorem sha_pad (N : Nat) {n : Int} (h0 : 0 ≤ n) (h1 : n ≤ 35184372088832) (hN : 4611686018427387904 ≤ N) : sha256_Pad N n = some ((), (pad n.toNat, ())) := by
  obtain ⟨k, rfl⟩ := Int.eq_ofNat_of_zero_le h0
  unfold sha256_Pad
  simp (disch := omega) only [dpos, dneg, w64_of, inR_of, room_of, tmod_of, cond_true, cond_false, Bool.and_self, Bool.and_true, Bool.true_and, Bool.and_false, Bool.false_and, Bool.not_true, Bool.not_false, Option.bind_some, List.length_cons, List.length_nil, Nat.zero_add]
  unfold sha256_Pad_1
  obtain ⟨z, hz⟩ : ∃ z, z = (119 - k % 64) % 64 := ⟨_, rfl⟩
  have hzN : z < N := by omega
  refine (loopK_run (fun i : Nat => (((k : Int), ()), (128 :: List.replicate i 0, ()))) (n := z) ?_ (e := (((k : Int), ()), (128 :: List.replicate z 0, ()))) ?_ hzN).trans ?_
  · intro i hi
    show sha256_Pad_s2 N _ _ = _
    unfold sha256_Pad_s2
    simp (disch := omega) only [dpos, dneg, w64_of, inR_of, room_of, tmod_of, cond_true, cond_false, Bool.and_self, Bool.and_true, Bool.true_and, Bool.and_false, Bool.false_and, Bool.not_true, Bool.not_false, Option.bind_some, List.length_cons, List.length_nil, Nat.zero_add, List.length_append, List.length_replicate, Int.natCast_add, Int.natCast_one]
    rw [List.cons_append, ← List.replicate_succ']
  · show sha256_Pad_s2 N _ _ = _
    unfold sha256_Pad_s2
    simp (disch := omega) only [dpos, dneg, w64_of, inR_of, room_of, tmod_of, cond_true, cond_false, Bool.and_self, Bool.and_true, Bool.true_and, Bool.and_false, Bool.false_and, Bool.not_true, Bool.not_false, Option.bind_some, List.length_cons, List.length_nil, Nat.zero_add, List.length_append, List.length_replicate, Int.natCast_add, Int.natCast_one]
  · show sha256_Pad_3 N _ _ = _
    unfold sha256_Pad_3
    have hl : ((128 : UInt8) :: List.replicate z 0).length ≤ 70368744177664 := by simp; omega
    simp (disch := omega) only [dpos, dneg, w64_of, inR_of, room_of, tmod_of, cond_true, cond_false, Bool.and_self, Bool.and_true, Bool.true_and, Bool.and_false, Bool.false_and, Bool.not_true, Bool.not_false, Option.bind_some, List.length_cons, List.length_nil, Nat.zero_add, wire_put, pad, Int.toNat_natCast, ← hz]
    rfl
theorem ref_pad (N : Nat) {n : Int} (h0 : 0 ≤ n) (h1 : n ≤ 35184372088832) (hN : 4611686018427387904 ≤ N) : ref08_Pad N n = some ((), (pad n.toNat, ())) := by
  obtain ⟨k, rfl⟩ := Int.eq_ofNat_of_zero_le h0
  unfold ref08_Pad
  simp (disch := omega) only [dpos, dneg, w64_of, inR_of, room_of, tmod_of, cond_true, cond_false, Bool.and_self, Bool.and_true, Bool.true_and, Bool.and_false, Bool.false_and, Bool.not_true, Bool.not_false, Option.bind_some, List.length_cons, List.length_nil, Nat.zero_add]
  unfold ref08_Pad_1
  obtain ⟨z, hz⟩ : ∃ z, z = (119 - k % 64) % 64 := ⟨_, rfl⟩
  have hzN : z < N := by omega
  refine (loopK_run (fun i : Nat => (((k : Int), ()), (128 :: List.replicate i 0, ()))) (n := z) ?_ (e := (((k : Int), ()), (128 :: List.replicate z 0, ()))) ?_ hzN).trans ?_
  · intro i hi
    show ref08_Pad_s2 N _ _ = _
    unfold ref08_Pad_s2
    simp (disch := omega) only [dpos, dneg, w64_of, inR_of, room_of, tmod_of, cond_true, cond_false, Bool.and_self, Bool.and_true, Bool.true_and, Bool.and_false, Bool.false_and, Bool.not_true, Bool.not_false, Option.bind_some, List.length_cons, List.length_nil, Nat.zero_add, List.length_append, List.length_replicate, Int.natCast_add, Int.natCast_one]
    rw [List.cons_append, ← List.replicate_succ']
  · show ref08_Pad_s2 N _ _ = _
    unfold ref08_Pad_s2
    simp (disch := omega) only [dpos, dneg, w64_of, inR_of, room_of, tmod_of, cond_true, cond_false, Bool.and_self, Bool.and_true, Bool.true_and, Bool.and_false, Bool.false_and, Bool.not_true, Bool.not_false, Option.bind_some, List.length_cons, List.length_nil, Nat.zero_add, List.length_append, List.length_replicate, Int.natCast_add, Int.natCast_one]
  · show ref08_Pad_3 N _ _ = _
    unfold ref08_Pad_3
    have hl : ((128 : UInt8) :: List.replicate z 0).length ≤ 70368744177664 := by simp; omega
    simp (disch := omega) only [dpos, dneg, w64_of, inR_of, room_of, tmod_of, cond_true, cond_false, Bool.and_self, Bool.and_true, Bool.true_and, Bool.and_false, Bool.false_and, Bool.not_true, Bool.not_false, Option.bind_some, List.length_cons, List.length_nil, Nat.zero_add, ref_put, pad, Int.toNat_natCast, ← hz]
    rfl

/-- The states behind the blocks of a message. -/
def chain (all : List UInt8) (st : List UInt32) : Nat → List UInt32
  | 0 => st
  | i + 1 => blk (chain all st i) ((all.drop (64 * i)).take 64)
theorem chain_len (all : List UInt8) {st : List UInt32} (h : st.length = 8) (i : Nat) : (chain all st i).length = 8 := by
  induction i with
  | zero => exact h
  | succ i ih => exact blk_len ih _
def out8 (l : List UInt32) : List UInt8 := (l.map fun x => be x.toUInt64 4).flatten
/-- The hash. -/
def sha (b : List UInt8) : List UInt8 := out8 (chain (b ++ pad b.length) g_sha256_initial ((b ++ pad b.length).length / 64))
theorem sha_out (M : Nat) (a b c d e f g h : UInt32) : sha256_Sum_4 (M + 20) [a, b, c, d, e, f, g, h] 0 [] = some ((), (out8 [a, b, c, d, e, f, g, h], ())) := by kernel_rfl
theorem ref_out (M : Nat) (a b c d e f g h : UInt32) : ref08_Sum_4 (M + 20) 0 [a, b, c, d, e, f, g, h] [] = some ((), (out8 [a, b, c, d, e, f, g, h], ())) := by kernel_rfl
theorem out8_len {l : List UInt32} (h : l.length = 8) : (out8 l).length = 32 := by
  obtain ⟨a, b, c, d, e, f, g, h, rfl⟩ := list8 h
  simp [out8, be_len]
theorem sha_len (b : List UInt8) : (sha b).length = 32 := out8_len (chain_len _ rfl _)
theorem all_len (b : List UInt8) : (b ++ pad b.length).length = 64 * ((b ++ pad b.length).length / 64) := by
  rw [List.length_append, pad_len]; omega
theorem sha_sum (N : Nat) {b : List UInt8} (hb : b.length ≤ 35184372088832) (hN : 4611686018427387904 ≤ N) : sha256_Sum N b = some ((), (sha b, ())) := by
  unfold sha256_Sum
  have hp := pad_len b.length
  simp (disch := omega) only [dpos, dneg, w64_of, inR_of, room_of, tmod_of, cond_true, cond_false, Bool.and_self, Bool.and_true, Bool.true_and, Bool.and_false, Bool.false_and, Bool.not_true, Bool.not_false, Option.bind_some, List.length_cons, List.length_nil, Nat.zero_add, sha_pad, Int.toNat_natCast]
  have ha := all_len b
  unfold sha
  have hal : (b ++ pad b.length).length ≤ 35184372088932 := by rw [List.length_append]; omega
  generalize b ++ pad b.length = all at ha hal
  generalize all.length / 64 = n at ha
  have hst : g_sha256_initial.length = 8 := rfl
  generalize g_sha256_initial = st at hst
  unfold sha256_Sum_1
  refine (loopK_run (fun i : Nat => ((all, ((64 * i : Nat) : Int), ()), (chain all st i, ()))) (n := n) ?_ (e := ((), (chain all st n, ()))) ?_ (by omega)).trans ?_
  · intro i hi
    have hc := chain_len all hst i
    have e2 : ((64 * i : Nat) : Int) + 64 = ((64 * (i + 1) : Nat) : Int) := by omega
    have e3 : cut all (64 * i) (64 * (i + 1)) = (all.drop (64 * i)).take 64 := cut_at all (64 * i) 64
    have e4 : ((all.drop (64 * i)).take 64).length = 64 := by simp; omega
    show sha256_Sum_s2 N _ _ _ = _
    unfold sha256_Sum_s2
    simp (disch := omega) only [dpos, dneg, w64_of, inR_of, room_of, tmod_of, cond_true, cond_false, Bool.and_self, Bool.and_true, Bool.true_and, Bool.and_false, Bool.false_and, Bool.not_true, Bool.not_false, Option.bind_some, List.length_cons, List.length_nil, Nat.zero_add, e2, Int.toNat_natCast, e3, sha_block, hc, e4, chain]
  · show sha256_Sum_s2 N _ _ _ = _
    unfold sha256_Sum_s2
    simp (disch := omega) only [dpos, dneg, w64_of, inR_of, room_of, tmod_of, cond_true, cond_false, Bool.and_self, Bool.and_true, Bool.true_and, Bool.and_false, Bool.false_and, Bool.not_true, Bool.not_false, Option.bind_some, List.length_cons, List.length_nil, Nat.zero_add]
  · show sha256_Sum_3 N (chain all st n) = _
    unfold sha256_Sum_3
    obtain ⟨a, b, c, d, e, f, g, h, e1⟩ := list8 (chain_len all hst n)
    obtain ⟨M, rfl⟩ := Nat.exists_eq_add_of_le' (show 20 ≤ N by omega)
    rw [e1, sha_out]
theorem ref_sum (N : Nat) {b : List UInt8} (hb : b.length ≤ 35184372088832) (hN : 4611686018427387904 ≤ N) : ref08_Sum N b = some ((), (sha b, ())) := by
  unfold ref08_Sum
  have hp := pad_len b.length
  simp (disch := omega) only [dpos, dneg, w64_of, inR_of, room_of, tmod_of, cond_true, cond_false, Bool.and_self, Bool.and_true, Bool.true_and, Bool.and_false, Bool.false_and, Bool.not_true, Bool.not_false, Option.bind_some, List.length_cons, List.length_nil, Nat.zero_add, ref_pad, Int.toNat_natCast]
  have ha := all_len b
  unfold sha
  have hal : (b ++ pad b.length).length ≤ 35184372088932 := by rw [List.length_append]; omega
  generalize b ++ pad b.length = all at ha hal
  generalize all.length / 64 = n at ha
  show ref08_Sum_1 N 0 all g_sha256_initial = _
  have hst : g_sha256_initial.length = 8 := rfl
  generalize g_sha256_initial = st at hst
  unfold ref08_Sum_1
  refine (loopK_run (fun i : Nat => ((all, ((64 * i : Nat) : Int), ()), (chain all st i, ()))) (n := n) ?_ (e := ((), (chain all st n, ()))) ?_ (by omega)).trans ?_
  · intro i hi
    have hc := chain_len all hst i
    have e2 : ((64 * i : Nat) : Int) + 64 = ((64 * (i + 1) : Nat) : Int) := by omega
    have e3 : cut all (64 * i) (64 * (i + 1)) = (all.drop (64 * i)).take 64 := cut_at all (64 * i) 64
    have e4 : ((all.drop (64 * i)).take 64).length = 64 := by simp; omega
    show ref08_Sum_s2 N _ _ _ = _
    unfold ref08_Sum_s2
    simp (disch := omega) only [dpos, dneg, w64_of, inR_of, room_of, tmod_of, cond_true, cond_false, Bool.and_self, Bool.and_true, Bool.true_and, Bool.and_false, Bool.false_and, Bool.not_true, Bool.not_false, Option.bind_some, List.length_cons, List.length_nil, Nat.zero_add, e2, Int.toNat_natCast, e3, ref_block, hc, e4, chain]
  · show ref08_Sum_s2 N _ _ _ = _
    unfold ref08_Sum_s2
    simp (disch := omega) only [dpos, dneg, w64_of, inR_of, room_of, tmod_of, cond_true, cond_false, Bool.and_self, Bool.and_true, Bool.true_and, Bool.and_false, Bool.false_and, Bool.not_true, Bool.not_false, Option.bind_some, List.length_cons, List.length_nil, Nat.zero_add]
  · show ref08_Sum_3 N (chain all st n) = _
    unfold ref08_Sum_3
    obtain ⟨a, b, c, d, e, f, g, h, e1⟩ := list8 (chain_len all hst n)
    obtain ⟨M, rfl⟩ := Nat.exists_eq_add_of_le' (show 20 ≤ N by omega)
    rw [e1, ref_out]
end
end Go.Proofs.YtofajgidjkjnpaaDoor.Pl
