/- The ghost machine: an evaluator of the program's text over plain data, and its soundness. -/
import Derived.Test.YtlamdneheilahaaDoorGmLoop
import Derived.Test.YtlamdneheilahaaDoorGmInt
import Derived.KernelRfl
import Derived.Test.YtlamdneheilahaaDoorFnsKeysAgreeA
import Derived.Test.YtlamdneheilahaaDoorFnsKeysAgreeB
import Derived.Lib.Mul64
import Derived.Test.YtlamdneheilahaaDoorNum
set_option linter.unusedVariables false
set_option linter.unusedSimpArgs false
/- Plain: rules by which a walk over shallow functions is decided. -/
namespace Go.Proofs.YtlamdneheilahaaDoor.Pl
open Go
theorem dpos {p : Prop} [Decidable p] (h : p) : decide p = true := decide_eq_true h
theorem dneg {p : Prop} [Decidable p] (h : ¬ p) : decide p = false := decide_eq_false h
theorem w64_of {x : Int} (h : -9223372036854775808 ≤ x) (h' : x ≤ 9223372036854775807) : w64 x = x := w64_id h h'
theorem inR_of {i : Int} {n : Nat} (h : 0 ≤ i) (h' : i < (n : Int)) : inR i n = true := by simp [inR, h, h']
theorem room_of {n k : Nat} (h : n * k ≤ 140737488355328) : room n k = true := by simp [room, h]
theorem tmod_of {a b : Int} (h : 0 ≤ a) : a.tmod b = a % b := Int.tmod_eq_emod_of_nonneg h

theorem take_snoc {α : Type} (l : List α) (d : α) {i : Nat} (h : i < l.length) : l.take (i + 1) = l.take i ++ [l.getD i d] := by
  rw [List.take_add_one, List.getElem?_eq_getElem h]
  simp [List.getD, h]
theorem cut_at (b : List UInt8) (k w : Nat) : cut b k (k + w) = (b.drop k).take w := by
  unfold cut; rw [List.drop_take]; congr 1; omega
end Go.Proofs.YtlamdneheilahaaDoor.Pl

/- Plain: rules by which a walk over shallow functions is decided; numbers in bytes (wire, ref01). -/
namespace Go.Proofs.YtlamdneheilahaaDoor.Pl
open Go
/-- The number of bytes, the highest first. -/
def nbr (l : List UInt8) : UInt64 := l.foldl (fun v x => shl64 v 8 ||| x.toUInt64) 0
theorem nbr_snoc (l : List UInt8) (x : UInt8) : nbr (l ++ [x]) = shl64 (nbr l) 8 ||| x.toUInt64 := by simp [nbr]
theorem nbr_take (l : List UInt8) {i : Nat} (h : i < l.length) : nbr (l.take (i + 1)) = shl64 (nbr (l.take i)) 8 ||| (l.getD i 0).toUInt64 := by
  rw [List.take_add_one, List.getElem?_eq_getElem h]
  simp only [Option.toList_some, nbr_snoc]
  simp [List.getD, h]
theorem wire_number (N : Nat) {b : List UInt8} {at_ w : Int} (hw : 1 ≤ w) (hw8 : w ≤ 8) (h0 : 0 ≤ at_) (hb : at_ + w ≤ (b.length : Int)) (hl : b.length ≤ 70368744177664) (hN : 8 < N) :
    wire_Number N b at_ w = some ((nbr ((b.drop at_.toNat).take w.toNat), true, ()), ()) := by
  obtain ⟨k, rfl⟩ := Int.eq_ofNat_of_zero_le h0
  obtain ⟨m, rfl⟩ := Int.eq_ofNat_of_zero_le (show 0 ≤ w by omega)
  have hs : cut b k (k + m) = (b.drop k).take m := cut_at b k m
  have hlen : ((b.drop k).take m).length = m := by simp; omega
  have e1 : ((k : Int) + (m : Int)).toNat = k + m := by omega
  unfold wire_Number wire_Number_1 wire_Slice wire_Slice_1
  simp (disch := omega) only [dpos, dneg, w64_of, inR_of, room_of, tmod_of, cond_true, cond_false, Bool.and_self, Bool.and_true, Bool.true_and, Bool.and_false, Bool.false_and, Bool.not_true, Bool.not_false, Option.bind_some, List.length_cons, List.length_nil, Nat.zero_add, Int.toNat_natCast, e1, hs]
  generalize (b.drop k).take m = s at hlen
  subst hlen
  unfold wire_Number_2
  refine (loopK_run (fun i : Nat => ((nbr (s.take i), s, (s.length : Int), (i : Int), ()), ())) (n := s.length) ?_ (e := ((nbr s, ()), ())) ?_ (by omega)).trans rfl
  · intro i hi
    show wire_Number_s3 N _ s _ _ = _
    unfold wire_Number_s3
    simp (disch := omega) only [dpos, dneg, w64_of, inR_of, room_of, tmod_of, cond_true, cond_false, Bool.and_self, Bool.and_true, Bool.true_and, Bool.and_false, Bool.false_and, Bool.not_true, Bool.not_false, Option.bind_some, List.length_cons, List.length_nil, Nat.zero_add, Int.toNat_natCast, nbr_take s hi, Int.natCast_add, Int.natCast_one]
  · show wire_Number_s3 N _ s _ _ = _
    unfold wire_Number_s3
    simp (disch := omega) only [dpos, dneg, w64_of, inR_of, room_of, tmod_of, cond_true, cond_false, Bool.and_self, Bool.and_true, Bool.true_and, Bool.and_false, Bool.false_and, Bool.not_true, Bool.not_false, Option.bind_some, List.length_cons, List.length_nil, Nat.zero_add, List.take_length]

theorem ref_number (N : Nat) {b : List UInt8} {at_ w : Int} (hw : 1 ≤ w) (hw8 : w ≤ 8) (h0 : 0 ≤ at_) (hb : at_ + w ≤ (b.length : Int)) (hl : b.length ≤ 70368744177664) (hN : 8 < N) :
    ref01_Number N b at_ w = some ((nbr ((b.drop at_.toNat).take w.toNat), true, ()), ()) := by
  obtain ⟨k, rfl⟩ := Int.eq_ofNat_of_zero_le h0
  obtain ⟨m, rfl⟩ := Int.eq_ofNat_of_zero_le (show 0 ≤ w by omega)
  have hlen : ((b.drop k).take m).length = m := by simp; omega
  unfold ref01_Number ref01_Number_1
  simp (disch := omega) only [dpos, dneg, w64_of, inR_of, room_of, tmod_of, cond_true, cond_false, Bool.and_self, Bool.and_true, Bool.true_and, Bool.and_false, Bool.false_and, Bool.not_true, Bool.not_false, Option.bind_some, List.length_cons, List.length_nil, Nat.zero_add, Int.toNat_natCast]
  unfold ref01_Number_2
  refine (loopK_run (fun i : Nat => ((b, (k : Int), (m : Int), nbr (((b.drop k).take m).take i), ((k + i : Nat) : Int), ()), ())) (n := m) ?_ (e := ((nbr ((b.drop k).take m), ()), ())) ?_ (by omega)).trans rfl
  · intro i hi
    have hg : ((b.drop k).take m).getD i 0 = b.getD (k + i) 0 := by
      simp [List.getD, hi]
    show ref01_Number_s3 N b k m _ _ = _
    unfold ref01_Number_s3
    simp (disch := omega) only [dpos, dneg, w64_of, inR_of, room_of, tmod_of, cond_true, cond_false, Bool.and_self, Bool.and_true, Bool.true_and, Bool.and_false, Bool.false_and, Bool.not_true, Bool.not_false, Option.bind_some, List.length_cons, List.length_nil, Nat.zero_add, Int.toNat_natCast, nbr_take _ (show i < ((b.drop k).take m).length by omega), hg]
    congr 5
  · show ref01_Number_s3 N b k m _ _ = _
    unfold ref01_Number_s3
    simp (disch := omega) only [dpos, dneg, w64_of, inR_of, room_of, tmod_of, cond_true, cond_false, Bool.and_self, Bool.and_true, Bool.true_and, Bool.and_false, Bool.false_and, Bool.not_true, Bool.not_false, Option.bind_some, List.length_cons, List.length_nil, Nat.zero_add]
    rw [List.take_of_length_le (by omega)]

/-- The bytes of a number, the highest first. -/
def be (v : UInt64) : Nat → List UInt8
  | 0 => []
  | k + 1 => (shr64 v (8 * (k : Int)).toNat).toUInt8 :: be v k
theorem be_len (v : UInt64) (k : Nat) : (be v k).length = k := by induction k with | zero => rfl | succ k ih => simp [be, ih]
/-- The first i of w bytes. -/
theorem be_take (v : UInt64) {i w : Nat} (h : i < w) : (be v w).take (i + 1) = (be v w).take i ++ [(shr64 v (8 * ((w : Int) - 1 - (i : Int))).toNat).toUInt8] := by
  induction w generalizing i with
  | zero => omega
  | succ w ih =>
    cases i with
    | zero =>
      simp only [be, List.take_succ_cons, List.take_zero, List.nil_append]
      rw [show ((w + 1 : Nat) : Int) - 1 - ((0 : Nat) : Int) = (w : Int) by omega]
    | succ i =>
      rw [be, List.take_succ_cons, List.take_succ_cons, ih (by omega)]
      rw [show ((w + 1 : Nat) : Int) - 1 - ((i + 1 : Nat) : Int) = (w : Int) - 1 - (i : Int) by omega]
      rfl
theorem wire_put (N : Nat) {v : UInt64} {w : Int} {b : List UInt8} (hw : 1 ≤ w) (hw8 : w ≤ 8) (hl : b.length ≤ 70368744177664) (hN : 8 < N) :
    wire_Put N v w b = some ((), (b ++ be v w.toNat, ())) := by
  obtain ⟨m, rfl⟩ := Int.eq_ofNat_of_zero_le (show 0 ≤ w by omega)
  unfold wire_Put wire_Put_1
  simp (disch := omega) only [dpos, dneg, w64_of, inR_of, room_of, tmod_of, cond_true, cond_false, Bool.and_self, Bool.and_true, Bool.true_and, Bool.and_false, Bool.false_and, Bool.not_true, Bool.not_false, Option.bind_some, List.length_cons, List.length_nil, Nat.zero_add, Int.toNat_natCast]
  unfold wire_Put_2
  have h0 : b = b ++ (be v m).take 0 := by simp
  have := loopK_run (step := fun y => wire_Put_s3 N y.1.1 y.1.2.1 y.2.1) (J := fun (e : ((Unit) × ((List UInt8) × Unit))) => wire_Put_4 N e.2.1) (fun i : Nat => ((v, (m : Int) - 1 - (i : Int), ()), (b ++ (be v m).take i, ()))) (n := m) (e := ((), (b ++ be v m, ()))) ?_ ?_ (show m < N by omega)
  · simp only [Int.natCast_zero, Int.sub_zero, List.take_zero, List.append_nil] at this
    exact this
  · intro i hi
    have hlen := be_len v m
    have hle : ((be v m).take i).length = i := by simp; omega
    show wire_Put_s3 N v _ _ = _
    unfold wire_Put_s3
    simp (disch := omega) only [dpos, dneg, w64_of, inR_of, room_of, tmod_of, cond_true, cond_false, Bool.and_self, Bool.and_true, Bool.true_and, Bool.and_false, Bool.false_and, Bool.not_true, Bool.not_false, Option.bind_some, List.length_cons, List.length_nil, Nat.zero_add, List.length_append, hle]
    rw [be_take v hi, List.append_assoc, show (m : Int) - 1 - (i : Int) - 1 = (m : Int) - 1 - ((i + 1 : Nat) : Int) by omega]
  · show wire_Put_s3 N v _ _ = _
    unfold wire_Put_s3
    simp (disch := omega) only [dpos, dneg, w64_of, inR_of, room_of, tmod_of, cond_true, cond_false, Bool.and_self, Bool.and_true, Bool.true_and, Bool.and_false, Bool.false_and, Bool.not_true, Bool.not_false, Option.bind_some, List.length_cons, List.length_nil, Nat.zero_add]
    rw [List.take_of_length_le (by rw [be_len]; omega)]
theorem ref_put (N : Nat) {v : UInt64} {w : Int} {b : List UInt8} (hw : 1 ≤ w) (hw8 : w ≤ 8) (hl : b.length ≤ 70368744177664) (hN : 8 < N) :
    ref01_Put N b v w = some ((), (b ++ be v w.toNat, ())) := by
  obtain ⟨m, rfl⟩ := Int.eq_ofNat_of_zero_le (show 0 ≤ w by omega)
  unfold ref01_Put ref01_Put_1
  simp (disch := omega) only [dpos, dneg, w64_of, inR_of, room_of, tmod_of, cond_true, cond_false, Bool.and_self, Bool.and_true, Bool.true_and, Bool.and_false, Bool.false_and, Bool.not_true, Bool.not_false, Option.bind_some, List.length_cons, List.length_nil, Nat.zero_add, Int.toNat_natCast, Nat.zero_add]
  unfold ref01_Put_2
  have := loopK_run (step := fun y => ref01_Put_s3 N y.1.1 y.1.2.1 y.2.1) (J := fun (e : ((Unit) × ((List UInt8) × Unit))) => ref01_Put_4 N e.2.1) (fun i : Nat => ((v, (m : Int) - 1 - (i : Int), ()), (b ++ (be v m).take i, ()))) (n := m) (e := ((), (b ++ be v m, ()))) ?_ ?_ (show m < N by omega)
  · simp only [Int.natCast_zero, Int.sub_zero, List.take_zero, List.append_nil] at this
    exact this
  · intro i hi
    have hlen := be_len v m
    have hle : ((be v m).take i).length = i := by simp; omega
    have hu : ∀ x : Int, 0 ≤ x → x < 64 → (iu64 x).toNat = x.toNat := by
      intro x h0 h1
      obtain ⟨n, rfl⟩ := Int.eq_ofNat_of_zero_le h0
      have : n < 64 := by omega
      clear h0 h1 hle hlen hi
      revert n
      decide
    show ref01_Put_s3 N v _ _ = _
    unfold ref01_Put_s3
    simp (disch := omega) only [dpos, dneg, w64_of, inR_of, room_of, tmod_of, cond_true, cond_false, Bool.and_self, Bool.and_true, Bool.true_and, Bool.and_false, Bool.false_and, Bool.not_true, Bool.not_false, Option.bind_some, List.length_cons, List.length_nil, Nat.zero_add, List.length_append, hle, hu]
    rw [be_take v hi, List.append_assoc, show (m : Int) - 1 - (i : Int) - 1 = (m : Int) - 1 - ((i + 1 : Nat) : Int) by omega]
  · show ref01_Put_s3 N v _ _ = _
    unfold ref01_Put_s3
    simp (disch := omega) only [dpos, dneg, w64_of, inR_of, room_of, tmod_of, cond_true, cond_false, Bool.and_self, Bool.and_true, Bool.true_and, Bool.and_false, Bool.false_and, Bool.not_true, Bool.not_false, Option.bind_some, List.length_cons, List.length_nil, Nat.zero_add]
    rw [List.take_of_length_le (by rw [be_len]; omega)]
end Go.Proofs.YtlamdneheilahaaDoor.Pl

/- Plain: SHA-256, the program's and the reference's: both are one function of the bytes. -/
namespace Go.Proofs.YtlamdneheilahaaDoor.Pl
open Go
noncomputable section
def rotr (x : UInt32) (n : Nat) : UInt32 := shl32 x (32 - n) ||| shr32 x n
theorem right2 (N : Nat) (x : UInt32) : sha256_right N x (2 : Int) = some ((rotr x 2, ()), ()) := by kernel_rfl
theorem right6 (N : Nat) (x : UInt32) : sha256_right N x (6 : Int) = some ((rotr x 6, ()), ()) := by kernel_rfl
theorem right7 (N : Nat) (x : UInt32) : sha256_right N x (7 : Int) = some ((rotr x 7, ()), ()) := by kernel_rfl
theorem right11 (N : Nat) (x : UInt32) : sha256_right N x (11 : Int) = some ((rotr x 11, ()), ()) := by kernel_rfl
theorem right13 (N : Nat) (x : UInt32) : sha256_right N x (13 : Int) = some ((rotr x 13, ()), ()) := by kernel_rfl
theorem right17 (N : Nat) (x : UInt32) : sha256_right N x (17 : Int) = some ((rotr x 17, ()), ()) := by kernel_rfl
theorem right18 (N : Nat) (x : UInt32) : sha256_right N x (18 : Int) = some ((rotr x 18, ()), ()) := by kernel_rfl
theorem right19 (N : Nat) (x : UInt32) : sha256_right N x (19 : Int) = some ((rotr x 19, ()), ()) := by kernel_rfl
theorem right22 (N : Nat) (x : UInt32) : sha256_right N x (22 : Int) = some ((rotr x 22, ()), ()) := by kernel_rfl
theorem right25 (N : Nat) (x : UInt32) : sha256_right N x (25 : Int) = some ((rotr x 25, ()), ()) := by kernel_rfl
theorem turn_of {N : Nat} {x : UInt32} {n : UInt64} {k : Nat} (h : ref08_turn N x n = some ((shr32 x k ||| shl32 x (32 - k), ()), ())) : ref08_turn N x n = some ((rotr x k, ()), ()) := by
  rw [h, UInt32.or_comm]; rfl
theorem turn2 (N : Nat) (x : UInt32) : ref08_turn N x (2 : UInt64) = some ((rotr x 2, ()), ()) := turn_of (by kernel_rfl)
theorem turn6 (N : Nat) (x : UInt32) : ref08_turn N x (6 : UInt64) = some ((rotr x 6, ()), ()) := turn_of (by kernel_rfl)
theorem turn7 (N : Nat) (x : UInt32) : ref08_turn N x (7 : UInt64) = some ((rotr x 7, ()), ()) := turn_of (by kernel_rfl)
theorem turn11 (N : Nat) (x : UInt32) : ref08_turn N x (11 : UInt64) = some ((rotr x 11, ()), ()) := turn_of (by kernel_rfl)
theorem turn13 (N : Nat) (x : UInt32) : ref08_turn N x (13 : UInt64) = some ((rotr x 13, ()), ()) := turn_of (by kernel_rfl)
theorem turn17 (N : Nat) (x : UInt32) : ref08_turn N x (17 : UInt64) = some ((rotr x 17, ()), ()) := turn_of (by kernel_rfl)
theorem turn18 (N : Nat) (x : UInt32) : ref08_turn N x (18 : UInt64) = some ((rotr x 18, ()), ()) := turn_of (by kernel_rfl)
theorem turn19 (N : Nat) (x : UInt32) : ref08_turn N x (19 : UInt64) = some ((rotr x 19, ()), ()) := turn_of (by kernel_rfl)
theorem turn22 (N : Nat) (x : UInt32) : ref08_turn N x (22 : UInt64) = some ((rotr x 22, ()), ()) := turn_of (by kernel_rfl)
theorem turn25 (N : Nat) (x : UInt32) : ref08_turn N x (25 : UInt64) = some ((rotr x 25, ()), ()) := turn_of (by kernel_rfl)

/-- The word t of the schedule. -/
def sst (block : List UInt8) (w : List UInt32) (t : Nat) : UInt32 :=
  if t < 16 then (nbr ((block.drop (4 * (t : Int)).toNat).take (4 : Int).toNat)).toUInt32
  else ((((rotr (w.getD ((t : Int) - 2).toNat 0) 17 ^^^ rotr (w.getD ((t : Int) - 2).toNat 0) 19) ^^^ shr32 (w.getD ((t : Int) - 2).toNat 0) 10) + w.getD ((t : Int) - 7).toNat 0) +
    ((rotr (w.getD ((t : Int) - 15).toNat 0) 7 ^^^ rotr (w.getD ((t : Int) - 15).toNat 0) 18) ^^^ shr32 (w.getD ((t : Int) - 15).toNat 0) 3)) + w.getD ((t : Int) - 16).toNat 0
def sw (block : List UInt8) : Nat → List UInt32
  | 0 => List.replicate 64 0
  | t + 1 => (sw block t).set t (sst block (sw block t) t)
theorem sched (N : Nat) {block : List UInt8} (hb : block.length = 64) (hN : 4611686018427387904 ≤ N) : sha256_schedule N block = some ((sw block 64, ()), ()) := by
  unfold sha256_schedule sha256_schedule_1
  refine (loopK_run (fun t : Nat => ((block, (t : Int), ()), (List.replicate 64 0, sw block t, ()))) (n := 64) ?_ (e := ((), (List.replicate 64 0, sw block 64, ()))) ?_ (by omega)).trans ?_
  · intro t ht
    show sha256_schedule_s2 N block _ _ _ = _
    unfold sha256_schedule_s2
    by_cases h16 : t < 16
    · simp (disch := omega) only [dpos, dneg, w64_of, inR_of, room_of, tmod_of, cond_true, cond_false, Bool.and_self, Bool.and_true, Bool.true_and, Bool.and_false, Bool.false_and, Bool.not_true, Bool.not_false, Option.bind_some, List.length_cons, List.length_nil, Nat.zero_add, wire_number, Int.toNat_natCast, sw, sst, if_pos, Int.natCast_add, Int.natCast_one]
    · simp (disch := omega) only [dpos, dneg, w64_of, inR_of, room_of, tmod_of, cond_true, cond_false, Bool.and_self, Bool.and_true, Bool.true_and, Bool.and_false, Bool.false_and, Bool.not_true, Bool.not_false, Option.bind_some, List.length_cons, List.length_nil, Nat.zero_add, right17, right19, right7, right18, Int.toNat_natCast, sw, sst, if_neg, Int.natCast_add, Int.natCast_one]
  · show sha256_schedule_s2 N block _ _ _ = _
    unfold sha256_schedule_s2
    simp (disch := omega) only [dpos, dneg, w64_of, inR_of, room_of, tmod_of, cond_true, cond_false, Bool.and_self, Bool.and_true, Bool.true_and, Bool.and_false, Bool.false_and, Bool.not_true, Bool.not_false, Option.bind_some, List.length_cons, List.length_nil, Nat.zero_add]
  · simp only [sha256_schedule_3]

/-- A round. -/
def nx (k w : UInt32) : List UInt32 → List UInt32
  | [a, b, c, d, e, f, g, h] => [((((h + ((rotr e 6 ^^^ rotr e 11) ^^^ rotr e 25)) + ((e &&& f) ^^^ ((~~~ e) &&& g))) + k) + w) + (((rotr a 2 ^^^ rotr a 13) ^^^ rotr a 22) + (((a &&& b) ^^^ (a &&& c)) ^^^ (b &&& c))), a, b, c,
      d + ((((h + ((rotr e 6 ^^^ rotr e 11) ^^^ rotr e 25)) + ((e &&& f) ^^^ ((~~~ e) &&& g))) + k) + w), e, f, g]
  | l => l
def rd (w st : List UInt32) : Nat → List UInt32
  | 0 => st
  | t + 1 => nx (g_sha256_constants.getD t 0) (w.getD t 0) (rd w st t)
theorem list8 {α : Type} {l : List α} (h : l.length = 8) : ∃ a b c d e f g i, l = [a, b, c, d, e, f, g, i] := by
  match l, h with
  | [a, b, c, d, e, f, g, i], _ => exact ⟨a, b, c, d, e, f, g, i, rfl⟩
theorem nx_len (k w : UInt32) {l : List UInt32} (h : l.length = 8) : (nx k w l).length = 8 := by
  obtain ⟨a, b, c, d, e, f, g, i, rfl⟩ := list8 h; rfl
theorem rd_len (w : List UInt32) {st : List UInt32} (h : st.length = 8) (t : Nat) : (rd w st t).length = 8 := by
  induction t with
  | zero => exact h
  | succ t ih => exact nx_len _ _ ih
def add8 (l m : List UInt32) : List UInt32 := List.zipWith (· + ·) l m
def blk (st : List UInt32) (block : List UInt8) : List UInt32 := add8 st (rd (sw block 64) st 64)
theorem blk_len {st : List UInt32} (h : st.length = 8) (block : List UInt8) : (blk st block).length = 8 := by
  simp [blk, add8, h, rd_len _ h]
theorem sha_fin (M : Nat) (a b c d e f g h s0 s1 s2 s3 s4 s5 s6 s7 : UInt32) (t : List UInt32) :
    sha256_Block_4 (M + 9) [a, b, c, d, e, f, g, h] 0 [s0, s1, s2, s3, s4, s5, s6, s7] t = some (([s0 + a, s1 + b, s2 + c, s3 + d, s4 + e, s5 + f, s6 + g, s7 + h], true, ()), ()) := by kernel_rfl
theorem ref_fin (M : Nat) (a b c d e f g h s0 s1 s2 s3 s4 s5 s6 s7 : UInt32) (t : List UInt32) :
    ref08_Block_7 (M + 9) 0 [s0, s1, s2, s3, s4, s5, s6, s7] t [a, b, c, d, e, f, g, h] = some (([a + s0, b + s1, c + s2, d + s3, e + s4, f + s5, g + s6, h + s7], true, ()), ()) := by kernel_rfl
theorem sha_block (N : Nat) {st : List UInt32} {block : List UInt8} (hs : st.length = 8) (hb : block.length = 64) (hN : 4611686018427387904 ≤ N) : sha256_Block N st block = some ((blk st block, true, ()), ()) := by
  unfold sha256_Block
  simp (disch := omega) only [dpos, dneg, w64_of, inR_of, room_of, tmod_of, cond_true, cond_false, Bool.and_self, Bool.and_true, Bool.true_and, Bool.and_false, Bool.false_and, Bool.not_true, Bool.not_false, Option.bind_some, List.length_cons, List.length_nil, Nat.zero_add, sched]
  unfold sha256_Block_1
  have h8 := rd_len (sw block 64) hs
  refine (loopK_run (fun t : Nat => (((rd (sw block 64) st t).getD 0 0, (rd (sw block 64) st t).getD 1 0, (rd (sw block 64) st t).getD 2 0, (rd (sw block 64) st t).getD 3 0, (rd (sw block 64) st t).getD 4 0, (rd (sw block 64) st t).getD 5 0, (rd (sw block 64) st t).getD 6 0, (rd (sw block 64) st t).getD 7 0, sw block 64, (t : Int), ()), (st, List.replicate 8 0, ()))) (n := 64) ?_
    (e := (((rd (sw block 64) st 64).getD 0 0, (rd (sw block 64) st 64).getD 1 0, (rd (sw block 64) st 64).getD 2 0, (rd (sw block 64) st 64).getD 3 0, (rd (sw block 64) st 64).getD 4 0, (rd (sw block 64) st 64).getD 5 0, (rd (sw block 64) st 64).getD 6 0, (rd (sw block 64) st 64).getD 7 0, ()), (st, List.replicate 8 0, ()))) ?_ (by omega)).trans ?_
  · intro t ht
    show sha256_Block_s2 N _ _ _ _ _ _ _ _ _ _ _ _ = _
    simp only [rd]
    obtain ⟨a, b, c, d, e, f, g, h, e1⟩ := list8 (h8 t)
    rw [e1]
    unfold sha256_Block_s2
    simp (disch := omega) only [dpos, dneg, w64_of, inR_of, room_of, tmod_of, cond_true, cond_false, Bool.and_self, Bool.and_true, Bool.true_and, Bool.and_false, Bool.false_and, Bool.not_true, Bool.not_false, Option.bind_some, List.length_cons, List.length_nil, Nat.zero_add, right2, right6, right11, right13, right22, right25, Int.toNat_natCast, nx, List.getD_cons_zero, List.getD_cons_succ, Int.natCast_add, Int.natCast_one]
  · show sha256_Block_s2 N _ _ _ _ _ _ _ _ _ _ _ _ = _
    unfold sha256_Block_s2
    simp (disch := omega) only [dpos, dneg, w64_of, inR_of, room_of, tmod_of, cond_true, cond_false, Bool.and_self, Bool.and_true, Bool.true_and, Bool.and_false, Bool.false_and, Bool.not_true, Bool.not_false, Option.bind_some, List.length_cons, List.length_nil, Nat.zero_add]
  · obtain ⟨a, b, c, d, e, f, g, h, e1⟩ := list8 (h8 64)
    obtain ⟨s0, s1, s2, s3, s4, s5, s6, s7, rfl⟩ := list8 hs
    obtain ⟨M, rfl⟩ := Nat.exists_eq_add_of_le' (show 9 ≤ N by omega)
    show sha256_Block_3 _ _ _ _ _ _ _ _ _ _ _ = _
    unfold sha256_Block_3
    simp only [blk, e1, List.getD_cons_zero, List.getD_cons_succ]
    rw [sha_fin]
    rfl
theorem constants_ok (N : Nat) : ref08_constants N = some ((g_sha256_constants, ()), ()) := by kernel_rfl
theorem ref_block (N : Nat) {st : List UInt32} {block : List UInt8} (hs : st.length = 8) (hb : block.length = 64) (hN : 4611686018427387904 ≤ N) : ref08_Block N st block = some ((blk st block, true, ()), ()) := by
  unfold ref08_Block
  simp (disch := omega) only [dpos, dneg, w64_of, inR_of, room_of, tmod_of, cond_true, cond_false, Bool.and_self, Bool.and_true, Bool.true_and, Bool.and_false, Bool.false_and, Bool.not_true, Bool.not_false, Option.bind_some, List.length_cons, List.length_nil, Nat.zero_add]
  unfold ref08_Block_1
  refine (loopK_run (fun t : Nat => ((block, (t : Int), ()), (st, List.replicate 8 0, sw block t, ()))) (n := 64) ?_ (e := ((), (st, List.replicate 8 0, sw block 64, ()))) ?_ (by omega)).trans ?_
  · intro t ht
    show ref08_Block_s2 N block _ _ _ _ = _
    unfold ref08_Block_s2
    by_cases h16 : t < 16
    · simp (disch := omega) only [dpos, dneg, w64_of, inR_of, room_of, tmod_of, cond_true, cond_false, Bool.and_self, Bool.and_true, Bool.true_and, Bool.and_false, Bool.false_and, Bool.not_true, Bool.not_false, Option.bind_some, List.length_cons, List.length_nil, Nat.zero_add, ref_number, Int.toNat_natCast, sw, sst, if_pos, Int.natCast_add, Int.natCast_one]
    · simp (disch := omega) only [dpos, dneg, w64_of, inR_of, room_of, tmod_of, cond_true, cond_false, Bool.and_self, Bool.and_true, Bool.true_and, Bool.and_false, Bool.false_and, Bool.not_true, Bool.not_false, Option.bind_some, List.length_cons, List.length_nil, Nat.zero_add, turn17, turn19, turn7, turn18, Int.toNat_natCast, sw, sst, if_neg, Int.natCast_add, Int.natCast_one]
  · show ref08_Block_s2 N block _ _ _ _ = _
    unfold ref08_Block_s2
    simp (disch := omega) only [dpos, dneg, w64_of, inR_of, room_of, tmod_of, cond_true, cond_false, Bool.and_self, Bool.and_true, Bool.true_and, Bool.and_false, Bool.false_and, Bool.not_true, Bool.not_false, Option.bind_some, List.length_cons, List.length_nil, Nat.zero_add]
  have h8 := rd_len (sw block 64) hs
  revert h8
  generalize hblk : blk st block = out
  unfold blk at hblk
  generalize sw block 64 = ww at hblk
  intro h8
  show ref08_Block_3 N st (List.replicate 8 0) ww = _
  unfold ref08_Block_3
  rw [constants_ok, Option.bind_some]
  unfold ref08_Block_4
  refine (loopK_run (fun t : Nat => (((t : Int), ()), (st, List.replicate 8 0, ww, g_sha256_constants, rd ww st t, ()))) (n := 64) ?_ (e := ((), (st, List.replicate 8 0, rd ww st 64, ()))) ?_ (by omega)).trans ?_
  · intro t ht
    show ref08_Block_s5 N _ _ _ _ _ _ = _
    simp only [rd]
    obtain ⟨a, b, c, d, e, f, g, h, e1⟩ := list8 (h8 t)
    rw [e1]
    unfold ref08_Block_s5
    simp (disch := omega) only [dpos, dneg, w64_of, inR_of, room_of, tmod_of, cond_true, cond_false, Bool.and_self, Bool.and_true, Bool.true_and, Bool.and_false, Bool.false_and, Bool.not_true, Bool.not_false, Option.bind_some, List.length_cons, List.length_nil, Nat.zero_add, turn2, turn6, turn11, turn13, turn22, turn25, Int.toNat_natCast, nx, List.getD_cons_zero, List.getD_cons_succ, Int.natCast_add, Int.natCast_one]
  · show ref08_Block_s5 N _ _ _ _ _ _ = _
    unfold ref08_Block_s5
    simp (disch := omega) only [dpos, dneg, w64_of, inR_of, room_of, tmod_of, cond_true, cond_false, Bool.and_self, Bool.and_true, Bool.true_and, Bool.and_false, Bool.false_and, Bool.not_true, Bool.not_false, Option.bind_some, List.length_cons, List.length_nil, Nat.zero_add]
  · obtain ⟨a, b, c, d, e, f, g, h, e1⟩ := list8 (h8 64)
    obtain ⟨s0, s1, s2, s3, s4, s5, s6, s7, rfl⟩ := list8 hs
    obtain ⟨M, rfl⟩ := Nat.exists_eq_add_of_le' (show 9 ≤ N by omega)
    show ref08_Block_6 _ _ _ _ = _
    unfold ref08_Block_6
    rw [e1] at hblk ⊢
    rw [ref_fin, ← hblk]
    show some (([_, _, _, _, _, _, _, _], true, ()), ()) = some (([_, _, _, _, _, _, _, _], true, ()), ())
    rw [UInt32.add_comm a, UInt32.add_comm b, UInt32.add_comm c, UInt32.add_comm d, UInt32.add_comm e, UInt32.add_comm f, UInt32.add_comm g, UInt32.add_comm h]

/-- What follows a message of n bytes. -/
def pad (n : Nat) : List UInt8 := (128 :: List.replicate ((119 - n % 64) % 64) 0) ++ be (iu64 (n : Int) * 8) 8
theorem pad_len (n : Nat) : (pad n).length = 9 + (119 - n % 64) % 64 := by simp [pad, be_len]; omega
theorem sha_pad (N : Nat) {n : Int} (h0 : 0 ≤ n) (h1 : n ≤ 35184372088832) (hN : 4611686018427387904 ≤ N) : sha256_Pad N n = some ((), (pad n.toNat, ())) := by
  obtain ⟨k, rfl⟩ := Int.eq_ofNat_of_zero_le h0
  unfold sha256_Pad
  simp (disch := omega) only [dpos, dneg, w64_of, inR_of, room_of, tmod_of, cond_true, cond_false, Bool.and_self, Bool.and_true, Bool.true_and, Bool.and_false, Bool.false_and, Bool.not_true, Bool.not_false, Option.bind_some, List.length_cons, List.length_nil, Nat.zero_add]
  unfold sha256_Pad_1
  obtain ⟨z, hz⟩ : ∃ z, z = (119 - k % 64) % 64 := ⟨_, rfl⟩
  have hzN : z < N := by omega
  refine (loopK_run (fun i : Nat => (((k : Int), ()), (128 :: List.replicate i 0, ()))) (n := z) ?_ (e := (((k : Int), ()), (128 :: List.replicate z 0, ()))) ?_ hzN).trans ?_
  · intro i hi
    show sha256_Pad_s2 N _ _ = _
    unfold sha256_Pad_s2
    simp (disch := omega) only [dpos, dneg, w64_of, inR_of, room_of, tmod_of, cond_true, cond_false, Bool.and_self, Bool.and_true, Bool.true_and, Bool.and_false, Bool.false_and, Bool.not_true, Bool.not_false, Option.bind_some, List.length_cons, List.length_nil, Nat.zero_add, List.length_append, List.length_replicate, Int.natCast_add, Int.natCast_one]
    rw [List.cons_append, ← List.replicate_succ']
  · show sha256_Pad_s2 N _ _ = _
    unfold sha256_Pad_s2
    simp (disch := omega) only [dpos, dneg, w64_of, inR_of, room_of, tmod_of, cond_true, cond_false, Bool.and_self, Bool.and_true, Bool.true_and, Bool.and_false, Bool.false_and, Bool.not_true, Bool.not_false, Option.bind_some, List.length_cons, List.length_nil, Nat.zero_add, List.length_append, List.length_replicate, Int.natCast_add, Int.natCast_one]
  · show sha256_Pad_3 N _ _ = _
    unfold sha256_Pad_3
    have hl : ((128 : UInt8) :: List.replicate z 0).length ≤ 70368744177664 := by simp; omega
    simp (disch := omega) only [dpos, dneg, w64_of, inR_of, room_of, tmod_of, cond_true, cond_false, Bool.and_self, Bool.and_true, Bool.true_and, Bool.and_false, Bool.false_and, Bool.not_true, Bool.not_false, Option.bind_some, List.length_cons, List.length_nil, Nat.zero_add, wire_put, pad, Int.toNat_natCast, ← hz]
    rfl
theorem ref_pad (N : Nat) {n : Int} (h0 : 0 ≤ n) (h1 : n ≤ 35184372088832) (hN : 4611686018427387904 ≤ N) : ref08_Pad N n = some ((), (pad n.toNat, ())) := by
  obtain ⟨k, rfl⟩ := Int.eq_ofNat_of_zero_le h0
  unfold ref08_Pad
  simp (disch := omega) only [dpos, dneg, w64_of, inR_of, room_of, tmod_of, cond_true, cond_false, Bool.and_self, Bool.and_true, Bool.true_and, Bool.and_false, Bool.false_and, Bool.not_true, Bool.not_false, Option.bind_some, List.length_cons, List.length_nil, Nat.zero_add]
  unfold ref08_Pad_1
  obtain ⟨z, hz⟩ : ∃ z, z = (119 - k % 64) % 64 := ⟨_, rfl⟩
  have hzN : z < N := by omega
  refine (loopK_run (fun i : Nat => (((k : Int), ()), (128 :: List.replicate i 0, ()))) (n := z) ?_ (e := (((k : Int), ()), (128 :: List.replicate z 0, ()))) ?_ hzN).trans ?_
  · intro i hi
    show ref08_Pad_s2 N _ _ = _
    unfold ref08_Pad_s2
    simp (disch := omega) only [dpos, dneg, w64_of, inR_of, room_of, tmod_of, cond_true, cond_false, Bool.and_self, Bool.and_true, Bool.true_and, Bool.and_false, Bool.false_and, Bool.not_true, Bool.not_false, Option.bind_some, List.length_cons, List.length_nil, Nat.zero_add, List.length_append, List.length_replicate, Int.natCast_add, Int.natCast_one]
    rw [List.cons_append, ← List.replicate_succ']
  · show ref08_Pad_s2 N _ _ = _
    unfold ref08_Pad_s2
    simp (disch := omega) only [dpos, dneg, w64_of, inR_of, room_of, tmod_of, cond_true, cond_false, Bool.and_self, Bool.and_true, Bool.true_and, Bool.and_false, Bool.false_and, Bool.not_true, Bool.not_false, Option.bind_some, List.length_cons, List.length_nil, Nat.zero_add, List.length_append, List.length_replicate, Int.natCast_add, Int.natCast_one]
  · show ref08_Pad_3 N _ _ = _
    unfold ref08_Pad_3
    have hl : ((128 : UInt8) :: List.replicate z 0).length ≤ 70368744177664 := by simp; omega
    simp (disch := omega) only [dpos, dneg, w64_of, inR_of, room_of, tmod_of, cond_true, cond_false, Bool.and_self, Bool.and_true, Bool.true_and, Bool.and_false, Bool.false_and, Bool.not_true, Bool.not_false, Option.bind_some, List.length_cons, List.length_nil, Nat.zero_add, ref_put, pad, Int.toNat_natCast, ← hz]
    rfl

/-- The states behind the blocks of a message. -/
def chain (all : List UInt8) (st : List UInt32) : Nat → List UInt32
  | 0 => st
  | i + 1 => blk (chain all st i) ((all.drop (64 * i)).take 64)
theorem chain_len (all : List UInt8) {st : List UInt32} (h : st.length = 8) (i : Nat) : (chain all st i).length = 8 := by
  induction i with
  | zero => exact h
  | succ i ih => exact blk_len ih _
def out8 (l : List UInt32) : List UInt8 := (l.map fun x => be x.toUInt64 4).flatten
/-- The hash. -/
def sha (b : List UInt8) : List UInt8 := out8 (chain (b ++ pad b.length) g_sha256_initial ((b ++ pad b.length).length / 64))
theorem sha_out (M : Nat) (a b c d e f g h : UInt32) : sha256_Sum_4 (M + 20) [a, b, c, d, e, f, g, h] 0 [] = some ((), (out8 [a, b, c, d, e, f, g, h], ())) := by kernel_rfl
theorem ref_out (M : Nat) (a b c d e f g h : UInt32) : ref08_Sum_4 (M + 20) 0 [a, b, c, d, e, f, g, h] [] = some ((), (out8 [a, b, c, d, e, f, g, h], ())) := by kernel_rfl
theorem out8_len {l : List UInt32} (h : l.length = 8) : (out8 l).length = 32 := by
  obtain ⟨a, b, c, d, e, f, g, h, rfl⟩ := list8 h
  simp [out8, be_len]
theorem sha_len (b : List UInt8) : (sha b).length = 32 := out8_len (chain_len _ rfl _)
theorem all_len (b : List UInt8) : (b ++ pad b.length).length = 64 * ((b ++ pad b.length).length / 64) := by
  rw [List.length_append, pad_len]; omega
theorem sha_sum (N : Nat) {b : List UInt8} (hb : b.length ≤ 35184372088832) (hN : 4611686018427387904 ≤ N) : sha256_Sum N b = some ((), (sha b, ())) := by
  unfold sha256_Sum
  have hp := pad_len b.length
  simp (disch := omega) only [dpos, dneg, w64_of, inR_of, room_of, tmod_of, cond_true, cond_false, Bool.and_self, Bool.and_true, Bool.true_and, Bool.and_false, Bool.false_and, Bool.not_true, Bool.not_false, Option.bind_some, List.length_cons, List.length_nil, Nat.zero_add, sha_pad, Int.toNat_natCast]
  have ha := all_len b
  unfold sha
  have hal : (b ++ pad b.length).length ≤ 35184372088932 := by rw [List.length_append]; omega
  generalize b ++ pad b.length = all at ha hal
  generalize all.length / 64 = n at ha
  have hst : g_sha256_initial.length = 8 := rfl
  generalize g_sha256_initial = st at hst
  unfold sha256_Sum_1
  refine (loopK_run (fun i : Nat => ((all, ((64 * i : Nat) : Int), ()), (chain all st i, ()))) (n := n) ?_ (e := ((), (chain all st n, ()))) ?_ (by omega)).trans ?_
  · intro i hi
    have hc := chain_len all hst i
    have e2 : ((64 * i : Nat) : Int) + 64 = ((64 * (i + 1) : Nat) : Int) := by omega
    have e3 : cut all (64 * i) (64 * (i + 1)) = (all.drop (64 * i)).take 64 := cut_at all (64 * i) 64
    have e4 : ((all.drop (64 * i)).take 64).length = 64 := by simp; omega
    show sha256_Sum_s2 N _ _ _ = _
    unfold sha256_Sum_s2
    simp (disch := omega) only [dpos, dneg, w64_of, inR_of, room_of, tmod_of, cond_true, cond_false, Bool.and_self, Bool.and_true, Bool.true_and, Bool.and_false, Bool.false_and, Bool.not_true, Bool.not_false, Option.bind_some, List.length_cons, List.length_nil, Nat.zero_add, e2, Int.toNat_natCast, e3, sha_block, hc, e4, chain]
  · show sha256_Sum_s2 N _ _ _ = _
    unfold sha256_Sum_s2
    simp (disch := omega) only [dpos, dneg, w64_of, inR_of, room_of, tmod_of, cond_true, cond_false, Bool.and_self, Bool.and_true, Bool.true_and, Bool.and_false, Bool.false_and, Bool.not_true, Bool.not_false, Option.bind_some, List.length_cons, List.length_nil, Nat.zero_add]
  · show sha256_Sum_3 N (chain all st n) = _
    unfold sha256_Sum_3
    obtain ⟨a, b, c, d, e, f, g, h, e1⟩ := list8 (chain_len all hst n)
    obtain ⟨M, rfl⟩ := Nat.exists_eq_add_of_le' (show 20 ≤ N by omega)
    rw [e1, sha_out]
theorem ref_sum (N : Nat) {b : List UInt8} (hb : b.length ≤ 35184372088832) (hN : 4611686018427387904 ≤ N) : ref08_Sum N b = some ((), (sha b, ())) := by
  unfold ref08_Sum
  have hp := pad_len b.length
  simp (disch := omega) only [dpos, dneg, w64_of, inR_of, room_of, tmod_of, cond_true, cond_false, Bool.and_self, Bool.and_true, Bool.true_and, Bool.and_false, Bool.false_and, Bool.not_true, Bool.not_false, Option.bind_some, List.length_cons, List.length_nil, Nat.zero_add, ref_pad, Int.toNat_natCast]
  have ha := all_len b
  unfold sha
  have hal : (b ++ pad b.length).length ≤ 35184372088932 := by rw [List.length_append]; omega
  generalize b ++ pad b.length = all at ha hal
  generalize all.length / 64 = n at ha
  show ref08_Sum_1 N 0 all g_sha256_initial = _
  have hst : g_sha256_initial.length = 8 := rfl
  generalize g_sha256_initial = st at hst
  unfold ref08_Sum_1
  refine (loopK_run (fun i : Nat => ((all, ((64 * i : Nat) : Int), ()), (chain all st i, ()))) (n := n) ?_ (e := ((), (chain all st n, ()))) ?_ (by omega)).trans ?_
  · intro i hi
    have hc := chain_len all hst i
    have e2 : ((64 * i : Nat) : Int) + 64 = ((64 * (i + 1) : Nat) : Int) := by omega
    have e3 : cut all (64 * i) (64 * (i + 1)) = (all.drop (64 * i)).take 64 := cut_at all (64 * i) 64
    have e4 : ((all.drop (64 * i)).take 64).length = 64 := by simp; omega
    show ref08_Sum_s2 N _ _ _ = _
    unfold ref08_Sum_s2
    simp (disch := omega) only [dpos, dneg, w64_of, inR_of, room_of, tmod_of, cond_true, cond_false, Bool.and_self, Bool.and_true, Bool.true_and, Bool.and_false, Bool.false_and, Bool.not_true, Bool.not_false, Option.bind_some, List.length_cons, List.length_nil, Nat.zero_add, e2, Int.toNat_natCast, e3, ref_block, hc, e4, chain]
  · show ref08_Sum_s2 N _ _ _ = _
    unfold ref08_Sum_s2
    simp (disch := omega) only [dpos, dneg, w64_of, inR_of, room_of, tmod_of, cond_true, cond_false, Bool.and_self, Bool.and_true, Bool.true_and, Bool.and_false, Bool.false_and, Bool.not_true, Bool.not_false, Option.bind_some, List.length_cons, List.length_nil, Nat.zero_add]
  · show ref08_Sum_3 N (chain all st n) = _
    unfold ref08_Sum_3
    obtain ⟨a, b, c, d, e, f, g, h, e1⟩ := list8 (chain_len all hst n)
    obtain ⟨M, rfl⟩ := Nat.exists_eq_add_of_le' (show 20 ≤ N by omega)
    rw [e1, ref_out]
end
end Go.Proofs.YtlamdneheilahaaDoor.Pl

/- Plain: the reference's comparison of bytes. -/
namespace Go.Proofs.YtlamdneheilahaaDoor.Pl
open Go
theorem compare_ok {N : Nat} {a b : List UInt8} (ha : a.length < 4611686018427387904) (hb : b.length < 4611686018427387904) (hN : a.length < N) : ∃ v, ref01_Compare N a b = some ((v, ()), ()) ∧ (v = 0 ↔ a = b) := by
  unfold ref01_Compare ref01_Compare_1
  have := loopK_of (N := N) (step := fun y => ref01_Compare_s2 N y.1.1 y.1.2.1 y.1.2.2.1) (J := fun (e : (((List UInt8) × (List UInt8) × Unit) × (Unit))) => ref01_Compare_4 N e.1.1 e.1.2.1)
    (I := fun y => y.1.1 = a ∧ y.1.2.1 = b ∧ 0 ≤ y.1.2.2.1 ∧ y.1.2.2.1 ≤ (a.length : Int) ∧ y.1.2.2.1 ≤ (b.length : Int) ∧ a.take y.1.2.2.1.toNat = b.take y.1.2.2.1.toNat) (μ := fun y => ((a.length : Int) - y.1.2.2.1).toNat) (T := fun r => ∃ v, r = ((v, ()), ()) ∧ (v = 0 ↔ a = b)) ?_
    (x := ((a, b, 0, ()), ())) ⟨rfl, rfl, by simp, by simp, by simp, by simp⟩ (by simpa using hN)
  · obtain ⟨r, h1, v, rfl, h2⟩ := this
    exact ⟨v, h1, h2⟩
  · rintro ⟨⟨a', b', i, _⟩, _⟩ ⟨h1, h2, h3, h4, h5, h6⟩
    simp only at h1 h2 h3 h4 h5 h6
    subst h1; subst h2
    obtain ⟨k, rfl⟩ := Int.eq_ofNat_of_zero_le h3
    simp only [Int.toNat_natCast] at h6
    have h4' : k ≤ a'.length := by omega
    have h5' : k ≤ b'.length := by omega
    have hend : ¬ (k < a'.length ∧ k < b'.length) → ∃ v, ref01_Compare_4 N a' b' = some ((v, ()), ()) ∧ (v = 0 ↔ a' = b') := by
      intro hne
      unfold ref01_Compare_4
      by_cases e1 : a'.length < b'.length
      · refine ⟨-1, by simp [e1], ⟨fun h => by omega, fun h => by rw [h] at e1; omega⟩⟩
      · by_cases e2 : b'.length < a'.length
        · refine ⟨1, by simp [e1, e2], ⟨fun h => by omega, fun h => by rw [h] at e2; omega⟩⟩
        · refine ⟨0, by simp [e1, e2], ⟨fun _ => ?_, fun _ => rfl⟩⟩
          have hk : k = a'.length := by omega
          have hk2 : k = b'.length := by omega
          rw [List.take_of_length_le (by omega), List.take_of_length_le (by omega)] at h6
          exact h6
    by_cases hlt : k < a'.length ∧ k < b'.length
    · obtain ⟨hl1, hl2⟩ := hlt
      have e1 : w64 ((k : Int) + 1) = (k : Int) + 1 := w64_id (by omega) (by omega)
      have e2 : inR (k : Int) a'.length = true := by simp [inR]; omega
      have e3 : inR (k : Int) b'.length = true := by simp [inR]; omega
      have hlt' : (k : Int) < (a'.length : Int) := by omega
      have hlt2 : (k : Int) < (b'.length : Int) := by omega
      simp only [ref01_Compare_s2, ref01_Compare_3, hlt', hlt2, decide_true, cond_true, e2, e3, e1, Int.toNat_natCast]
      have hga : a'.getD k 0 = a'[k] := by simp [List.getD, hl1]
      have hgb : b'.getD k 0 = b'[k] := by simp [List.getD, hl2]
      by_cases c1 : a'.getD k 0 < b'.getD k 0
      · simp only [c1, decide_true, cond_true]
        refine ⟨_, rfl, -1, rfl, ⟨fun h => by omega, fun h => ?_⟩⟩
        subst h; exact absurd c1 (by simp)
      · by_cases c2 : b'.getD k 0 < a'.getD k 0
        · simp only [c1, c2, decide_true, decide_false, cond_true, cond_false]
          refine ⟨_, rfl, 1, rfl, ⟨fun h => by omega, fun h => ?_⟩⟩
          subst h; exact absurd c2 (by simp)
        · simp only [c1, c2, decide_false, cond_false]
          refine ⟨_, rfl, ⟨rfl, rfl, by simp only; omega, by simp only; omega, by simp only; omega, ?_⟩, by simp only; omega⟩
          have hk1 : ((k : Int) + 1).toNat = k + 1 := by omega
          simp only [hk1]
          rw [List.take_add_one, List.take_add_one, h6]
          congr 1
          have : a'[k] = b'[k] := by
            have := UInt8.le_antisymm (UInt8.not_lt.1 c2) (UInt8.not_lt.1 c1)
            rwa [hga, hgb] at this
          simp [hl1, hl2, this]
    · have hs : ref01_Compare_s2 N a' b' k = some (.br ((a', b', ()), ())) := by
        simp only [ref01_Compare_s2, ref01_Compare_3]
        by_cases q : (k : Int) < (a'.length : Int)
        · have q2 : ¬ (k : Int) < (b'.length : Int) := by omega
          simp only [q, q2, decide_true, decide_false, cond_true, cond_false]
        · simp only [q, decide_false, cond_false]
      refine ⟨_, hs, ?_⟩
      obtain ⟨v, h7, h8⟩ := hend hlt
      exact ⟨_, h7, v, rfl, h8⟩
theorem equal_ok {N : Nat} {a b : List UInt8} (ha : a.length < 4611686018427387904) (hb : b.length < 4611686018427387904) (hN : a.length < N) : ref01_Equal N a b = some ((decide (a = b), ()), ()) := by
  obtain ⟨v, h1, h2⟩ := compare_ok ha hb hN
  unfold ref01_Equal
  rw [h1]
  simp only [Option.bind]
  by_cases h : a = b
  · simp [h, h2.2 h]
  · have : ¬ v = 0 := fun e => h (h2.1 e)
    simp [h, this]
end Go.Proofs.YtlamdneheilahaaDoor.Pl

/- Plain: the keyed hash, the program's and the reference's: one function of the bytes. -/
namespace Go.Proofs.YtlamdneheilahaaDoor.Pl
open Go
noncomputable section
/-- The key in 64 bytes. -/
def pk64 (k : List UInt8) : List UInt8 := splice (List.replicate 64 0) k
theorem pk64_len (k : List UInt8) (h : k.length ≤ 64) : (pk64 k).length = 64 := by simp [pk64, splice]; omega
def hk (k : List UInt8) : List UInt8 := if 64 < k.length then sha k else k
theorem hk_len (k : List UInt8) : (hk k).length ≤ 64 := by
  unfold hk; split
  · rw [sha_len]; decide
  · omega
def mk (m : UInt8) (k : List UInt8) : List UInt8 := (pk64 k).map (· ^^^ m)
theorem mk_len (m : UInt8) {k : List UInt8} (h : k.length ≤ 64) : (mk m k).length = 64 := by simp [mk, pk64_len k h]
def hmac (k b : List UInt8) : List UInt8 := sha (mk 92 (hk k) ++ sha (mk 54 (hk k) ++ b))
theorem hmac_len (k b : List UInt8) : (hmac k b).length = 32 := sha_len _
theorem hmac_f1 (N : Nat) (m : UInt8) {b t : List UInt8} (ht : t.length = 64) (hb : b.length ≤ 17592186044416) (hN : 4611686018427387904 ≤ N) : prf_Hmac_f1 N m b t = some ((), (sha (t.map (· ^^^ m) ++ b), ())) := by
  unfold prf_Hmac_f1 prf_Hmac_f1_1
  have hl : (t.map (· ^^^ m)).length = 64 := by simp [ht]
  generalize hT : t.map (· ^^^ m) = T at hl
  refine (loopK_run (fun i : Nat => ((m, b, t, (i : Int), ()), (T.take i, ()))) (n := 64) ?_ (e := ((b, ()), (T, ()))) ?_ (by omega)).trans ?_
  · intro i hi
    have hti : (T.take i).length = i := by simp; omega
    have hg : T.getD i 0 = t.getD i 0 ^^^ m := by
      rw [← hT]; simp [List.getD, List.getElem?_eq_getElem (show i < t.length by omega)]
    show prf_Hmac_f1_s2 N m b t _ _ = _
    unfold prf_Hmac_f1_s2
    simp (disch := omega) only [dpos, dneg, w64_of, inR_of, room_of, tmod_of, cond_true, cond_false, Bool.and_self, Bool.and_true, Bool.true_and, Bool.and_false, Bool.false_and, Bool.not_true, Bool.not_false, Option.bind_some, List.length_cons, List.length_nil, Nat.zero_add, Int.toNat_natCast, Int.natCast_add, Int.natCast_one, hti]
    rw [take_snoc T 0 (by omega), hg]
  · show prf_Hmac_f1_s2 N m b t _ _ = _
    unfold prf_Hmac_f1_s2
    simp (disch := omega) only [dpos, dneg, w64_of, inR_of, room_of, tmod_of, cond_true, cond_false, Bool.and_self, Bool.and_true, Bool.true_and, Bool.and_false, Bool.false_and, Bool.not_true, Bool.not_false, Option.bind_some, List.length_cons, List.length_nil, Nat.zero_add, List.take_of_length_le (show T.length ≤ 64 by omega)]
  · show prf_Hmac_f1_3 N b T = _
    unfold prf_Hmac_f1_3
    have ha : (T ++ b).length ≤ 17592186044516 := by rw [List.length_append]; omega
    simp (disch := omega) only [dpos, dneg, w64_of, inR_of, room_of, tmod_of, cond_true, cond_false, Bool.and_self, Bool.and_true, Bool.true_and, Bool.and_false, Bool.false_and, Bool.not_true, Bool.not_false, Option.bind_some, List.length_cons, List.length_nil, Nat.zero_add, sha_sum]
theorem prf_hmac (N : Nat) {k b : List UInt8} (hk' : k.length ≤ 17592186044416) (hb : b.length ≤ 17592186044416) (hN : 4611686018427387904 ≤ N) : prf_Hmac N k b = some ((), (hmac k b, ())) := by
  have h1 : ∀ k : List UInt8, k.length ≤ 64 → prf_Hmac_1 N k b (List.replicate 64 0) = some ((), (sha (mk 92 k ++ sha (mk 54 k ++ b)), ())) := by
    intro k hk
    have hp := pk64_len k hk
    have hs := sha_len (mk 54 k ++ b)
    unfold prf_Hmac_1
    show (prf_Hmac_f1 N 54 b (pk64 k)).bind _ = _
    rw [hmac_f1 N 54 hp hb hN, Option.bind_some]
    show (prf_Hmac_f1 N 92 (sha (mk 54 k ++ b)) (pk64 k)).bind _ = _
    rw [hmac_f1 N 92 hp (by omega) hN, Option.bind_some]
    rfl
  unfold prf_Hmac hmac hk
  by_cases h : (64 : Int) < (k.length : Int)
  · have hs := sha_len k
    simp (disch := omega) only [dpos, dneg, w64_of, inR_of, room_of, tmod_of, cond_true, cond_false, Bool.and_self, Bool.and_true, Bool.true_and, Bool.and_false, Bool.false_and, Bool.not_true, Bool.not_false, Option.bind_some, List.length_cons, List.length_nil, Nat.zero_add, sha_sum, h1, if_pos]
  · simp (disch := omega) only [dpos, dneg, w64_of, inR_of, room_of, tmod_of, cond_true, cond_false, Bool.and_self, Bool.and_true, Bool.true_and, Bool.and_false, Bool.false_and, Bool.not_true, Bool.not_false, Option.bind_some, List.length_cons, List.length_nil, Nat.zero_add, h1, if_neg]
theorem join_ok (N : Nat) {l : List (List UInt8)} (hl : l.length ≤ 1000000) (hf : l.flatten.length ≤ 35184372088832) (hN : 4611686018427387904 ≤ N) : ref09_Join N l = some ((), (l.flatten, ())) := by
  unfold ref09_Join ref09_Join_1
  refine (loopK_run (fun i : Nat => ((l, (i : Int), ()), ((l.take i).flatten, ()))) (n := l.length) ?_ (e := ((), (l.flatten, ()))) ?_ (by omega)).trans rfl
  · intro i hi
    have e : (l.take (i + 1)).flatten = (l.take i).flatten ++ l.getD i [] := by rw [take_snoc l [] hi]; simp
    have h2 : ((l.take (i + 1)).flatten).length ≤ l.flatten.length := by
      have := congrArg (fun x => x.flatten.length) (List.take_append_drop (i + 1) l)
      simp only [List.flatten_append, List.length_append] at this
      omega
    rw [e, List.length_append] at h2
    show ref09_Join_s2 N l _ _ = _
    unfold ref09_Join_s2
    simp (disch := omega) only [dpos, dneg, w64_of, inR_of, room_of, tmod_of, cond_true, cond_false, Bool.and_self, Bool.and_true, Bool.true_and, Bool.and_false, Bool.false_and, Bool.not_true, Bool.not_false, Option.bind_some, List.length_cons, List.length_nil, Nat.zero_add, Int.toNat_natCast, Int.natCast_add, Int.natCast_one, e]
  · show ref09_Join_s2 N l _ _ = _
    unfold ref09_Join_s2
    simp (disch := omega) only [dpos, dneg, w64_of, inR_of, room_of, tmod_of, cond_true, cond_false, Bool.and_self, Bool.and_true, Bool.true_and, Bool.and_false, Bool.false_and, Bool.not_true, Bool.not_false, Option.bind_some, List.length_cons, List.length_nil, Nat.zero_add, List.take_length]
theorem join2 (N : Nat) {a b : List UInt8} (h : a.length + b.length ≤ 35184372088832) (hN : 4611686018427387904 ≤ N) : ref09_Join N [a, b] = some ((), (a ++ b, ())) := by
  rw [join_ok N (by simp) (by simpa using h) hN]; simp
theorem join3 (N : Nat) {a b c : List UInt8} (h : a.length + b.length + c.length ≤ 35184372088832) (hN : 4611686018427387904 ≤ N) : ref09_Join N [a, b, c] = some ((), (a ++ b ++ c, ())) := by
  rw [join_ok N (by simp) (by simp; omega) hN]; simp
theorem join4 (N : Nat) {a b c d : List UInt8} (h : a.length + b.length + c.length + d.length ≤ 35184372088832) (hN : 4611686018427387904 ≤ N) : ref09_Join N [a, b, c, d] = some ((), (a ++ b ++ c ++ d, ())) := by
  rw [join_ok N (by simp) (by simp; omega) hN]; simp
theorem set_mid (A : List UInt8) (x v : UInt8) (B : List UInt8) {i : Nat} (h : A.length = i) : (A ++ x :: B).set i v = A ++ v :: B := by
  subst h; simp
theorem getD_mid (A : List UInt8) (x : UInt8) (B : List UInt8) {i : Nat} (h : A.length = i) : (A ++ x :: B).getD i 0 = x := by
  subst h; simp [List.getD]
theorem pk64_get {k : List UInt8} (h : k.length ≤ 64) {i : Nat} (hi : i < 64) : (pk64 k).getD i 0 = if i < k.length then k.getD i 0 else 0 := by
  have e : pk64 k = k ++ List.replicate (64 - k.length) 0 := by
    unfold pk64 splice
    rw [List.take_of_length_le (by rw [List.length_replicate]; exact h), List.drop_replicate]
  rw [e]
  split
  · simp [List.getD, List.getElem?_append_left ‹_›]
  · simp only [List.getD, List.getElem?_append_right (by omega : k.length ≤ i)]
    rw [List.getElem?_replicate]
    split <;> rfl
theorem mask_ok1 (N : Nat) {k : List UInt8} (m : UInt8) (h : k.length ≤ 64) (hN : 4611686018427387904 ≤ N) : ref09_mask_1 N k m = some ((), (mk m k, ())) := by
  unfold ref09_mask_1 ref09_mask_2
  have hl := mk_len m h
  have hg : ∀ i, i < 64 → (mk m k).getD i 0 = if i < k.length then m ^^^ k.getD i 0 else m := by
    intro i hi
    have : (mk m k).getD i 0 = (pk64 k).getD i 0 ^^^ m := by
      unfold mk; simp [List.getD, List.getElem?_eq_getElem (show i < (pk64 k).length by rw [pk64_len k h]; exact hi)]
    rw [this, pk64_get h hi]
    split
    · exact UInt8.xor_comm ..
    · simp
  generalize mk m k = T at hl hg
  have h64N : 64 < N := by omega
  refine (loopK_run (fun i : Nat => ((k, m, (i : Int), ()), (T.take i ++ List.replicate (64 - i) 0, ()))) (n := 64) ?_ (e := ((), (T, ()))) ?_ h64N).trans rfl
  · intro i hi
    have hti : (T.take i).length = i := by simp; omega
    have hr : List.replicate (64 - i) (0 : UInt8) = 0 :: List.replicate (64 - (i + 1)) 0 := by rw [show 64 - i = (64 - (i + 1)) + 1 by omega, List.replicate_succ]
    show ref09_mask_s3 N k m _ _ = _
    unfold ref09_mask_s3
    have h64 : (T.take i ++ m :: List.replicate (64 - (i + 1)) 0).length = 64 := by simp; omega
    have h64' : (T.take i ++ (0 : UInt8) :: List.replicate (64 - (i + 1)) 0).length = 64 := by simp; omega
    rw [take_snoc T 0 (by omega), hg i hi, hr]
    simp only [Int.toNat_natCast, set_mid _ _ _ _ hti, getD_mid _ _ _ hti]
    by_cases hik : i < k.length
    · simp (disch := omega) only [dpos, dneg, w64_of, inR_of, room_of, tmod_of, cond_true, cond_false, Bool.and_self, Bool.and_true, Bool.true_and, Bool.and_false, Bool.false_and, Bool.not_true, Bool.not_false, Option.bind_some, List.length_cons, List.length_nil, Nat.zero_add, Int.natCast_add, Int.natCast_one, h64, h64', if_pos, List.append_assoc, List.cons_append, List.nil_append]
    · simp (disch := omega) only [dpos, dneg, w64_of, inR_of, room_of, tmod_of, cond_true, cond_false, Bool.and_self, Bool.and_true, Bool.true_and, Bool.and_false, Bool.false_and, Bool.not_true, Bool.not_false, Option.bind_some, List.length_cons, List.length_nil, Nat.zero_add, Int.natCast_add, Int.natCast_one, h64, h64', if_neg, List.append_assoc, List.cons_append, List.nil_append]
  · show ref09_mask_s3 N k m _ _ = _
    unfold ref09_mask_s3
    simp (disch := omega) only [dpos, dneg, w64_of, inR_of, room_of, tmod_of, cond_true, cond_false, Bool.and_self, Bool.and_true, Bool.true_and, Bool.and_false, Bool.false_and, Bool.not_true, Bool.not_false, Option.bind_some, List.length_cons, List.length_nil, Nat.zero_add, List.take_of_length_le (show T.length ≤ 64 by omega)]
    simp
theorem mask_ok (N : Nat) {k : List UInt8} (m : UInt8) (h : k.length ≤ 17592186044416) (hN : 4611686018427387904 ≤ N) : ref09_mask N k m = some ((), (mk m (hk k), ())) := by
  unfold ref09_mask hk
  by_cases h64 : (64 : Int) < (k.length : Int)
  · have hs := sha_len k
    simp (disch := omega) only [dpos, dneg, w64_of, inR_of, room_of, tmod_of, cond_true, cond_false, Bool.and_self, Bool.and_true, Bool.true_and, Bool.and_false, Bool.false_and, Bool.not_true, Bool.not_false, Option.bind_some, List.length_cons, List.length_nil, Nat.zero_add, ref_sum, mask_ok1, if_pos]
  · simp (disch := omega) only [dpos, dneg, w64_of, inR_of, room_of, tmod_of, cond_true, cond_false, Bool.and_self, Bool.and_true, Bool.true_and, Bool.and_false, Bool.false_and, Bool.not_true, Bool.not_false, Option.bind_some, List.length_cons, List.length_nil, Nat.zero_add, mask_ok1, if_neg]
theorem ref_hmac (N : Nat) {k b : List UInt8} (hk' : k.length ≤ 17592186044416) (hb : b.length ≤ 17592186044416) (hN : 4611686018427387904 ≤ N) : ref09_Hmac N k b = some ((), (hmac k b, ())) := by
  have h1 := mk_len 92 (hk_len k)
  have h2 := mk_len 54 (hk_len k)
  have h5 : (mk 54 (hk k) ++ b).length ≤ 17592186044516 := by simp; omega
  have h6 := sha_len (mk 54 (hk k) ++ b)
  have h7 : (mk 92 (hk k) ++ sha (mk 54 (hk k) ++ b)).length ≤ 17592186044516 := by rw [List.length_append]; omega
  unfold ref09_Hmac hmac
  simp (disch := omega) only [dpos, dneg, w64_of, inR_of, room_of, tmod_of, cond_true, cond_false, Bool.and_self, Bool.and_true, Bool.true_and, Bool.and_false, Bool.false_and, Bool.not_true, Bool.not_false, Option.bind_some, List.length_cons, List.length_nil, Nat.zero_add, mask_ok, join2, ref_sum]
end
end Go.Proofs.YtlamdneheilahaaDoor.Pl

/- Plain: keys: what is joined and authenticated. -/
namespace Go.Proofs.YtlamdneheilahaaDoor.Pl
open Go
theorem kjoin_ok (N : Nat) {l : List (List UInt8)} (hl : l.length ≤ 1000000) (hf : l.flatten.length ≤ 35184372088832) (hN : 4611686018427387904 ≤ N) : keys_join N l = some ((), (l.flatten, ())) := by
  unfold keys_join keys_join_1
  refine (loopK_run (fun i : Nat => ((l, (l.length : Int), (i : Int), ()), ((l.take i).flatten, ()))) (n := l.length) ?_ (e := ((), (l.flatten, ()))) ?_ (by omega)).trans rfl
  · intro i hi
    have e : (l.take (i + 1)).flatten = (l.take i).flatten ++ l.getD i [] := by rw [take_snoc l [] hi]; simp
    have h2 : ((l.take (i + 1)).flatten).length ≤ l.flatten.length := by
      have := congrArg (fun x => x.flatten.length) (List.take_append_drop (i + 1) l)
      simp only [List.flatten_append, List.length_append] at this
      omega
    rw [e, List.length_append] at h2
    show keys_join_s2 N l _ _ _ = _
    unfold keys_join_s2
    simp (disch := omega) only [dpos, dneg, w64_of, inR_of, room_of, tmod_of, cond_true, cond_false, Bool.and_self, Bool.and_true, Bool.true_and, Bool.and_false, Bool.false_and, Bool.not_true, Bool.not_false, Option.bind_some, List.length_cons, List.length_nil, Nat.zero_add, Int.toNat_natCast, Int.natCast_add, Int.natCast_one, e]
  · show keys_join_s2 N l _ _ _ = _
    unfold keys_join_s2
    simp (disch := omega) only [dpos, dneg, w64_of, inR_of, room_of, tmod_of, cond_true, cond_false, Bool.and_self, Bool.and_true, Bool.true_and, Bool.and_false, Bool.false_and, Bool.not_true, Bool.not_false, Option.bind_some, List.length_cons, List.length_nil, Nat.zero_add, List.take_length]
theorem kjoin2 (N : Nat) {a b : List UInt8} (h : a.length + b.length ≤ 35184372088832) (hN : 4611686018427387904 ≤ N) : keys_join N [a, b] = some ((), (a ++ b, ())) := by
  rw [kjoin_ok N (by simp) (by simpa using h) hN]; simp
theorem kjoin3 (N : Nat) {a b c : List UInt8} (h : a.length + b.length + c.length ≤ 35184372088832) (hN : 4611686018427387904 ≤ N) : keys_join N [a, b, c] = some ((), (a ++ b ++ c, ())) := by
  rw [kjoin_ok N (by simp) (by simp; omega) hN]; simp
/-- Whether both nonces have a right length. -/
def nok (a b : List UInt8) : Bool := decide (16 ≤ a.length) && decide (a.length ≤ 256) && decide (16 ≤ b.length) && decide (b.length ≤ 256)
theorem nonces_ok (N : Nat) (a b : List UInt8) (ha : a.length ≤ 17592186044416) (hb : b.length ≤ 17592186044416) (hN : 4611686018427387904 ≤ N) : keys_nonces N [a, b] = some ((nok a b, ()), ()) := by
  obtain ⟨M, rfl⟩ := Nat.exists_eq_add_of_le' (show 3 ≤ N by omega)
  unfold keys_nonces keys_nonces_1
  have s0 : ∀ M, keys_nonces_s2 M [a, b] (([a, b] : List (List UInt8)).length : Int) 0 = bif decide ((a.length : Int) < 16) then some (.rt ((false, ()), ())) else bif decide (256 < (a.length : Int)) then some (.rt ((false, ()), ())) else some (.go (([a, b], (([a, b] : List (List UInt8)).length : Int), 1, ()), ())) := fun M => by kernel_rfl
  have s1 : ∀ M, keys_nonces_s2 M [a, b] (([a, b] : List (List UInt8)).length : Int) 1 = bif decide ((b.length : Int) < 16) then some (.rt ((false, ()), ())) else bif decide (256 < (b.length : Int)) then some (.rt ((false, ()), ())) else some (.go (([a, b], (([a, b] : List (List UInt8)).length : Int), 2, ()), ())) := fun M => by kernel_rfl
  have s2 : ∀ M, keys_nonces_s2 M [a, b] (([a, b] : List (List UInt8)).length : Int) 2 = some (.br ((), ())) := fun M => by kernel_rfl
  unfold nok
  rw [show M + 3 = M + 2 + 1 from rfl, loopK_succ]
  simp only [s0]
  by_cases a1 : (a.length : Int) < 16
  · simp (disch := omega) only [dpos, dneg, cond_true, cond_false, Option.bind_some, Bool.and_true, Bool.true_and, Bool.and_false, Bool.false_and, Bool.and_self]
  · by_cases a2 : (256 : Int) < (a.length : Int)
    · simp (disch := omega) only [dpos, dneg, cond_true, cond_false, Option.bind_some, Bool.and_true, Bool.true_and, Bool.and_false, Bool.false_and, Bool.and_self]
    · simp (disch := omega) only [dpos, dneg, cond_true, cond_false, Option.bind_some, Bool.and_true, Bool.true_and, Bool.and_false, Bool.false_and, Bool.and_self]
      rw [show M + 2 = M + 1 + 1 from rfl, loopK_succ]
      simp only [s1]
      by_cases b1 : (b.length : Int) < 16
      · simp (disch := omega) only [dpos, dneg, cond_true, cond_false, Option.bind_some, Bool.and_true, Bool.true_and, Bool.and_false, Bool.false_and, Bool.and_self]
      · by_cases b2 : (256 : Int) < (b.length : Int)
        · simp (disch := omega) only [dpos, dneg, cond_true, cond_false, Option.bind_some, Bool.and_true, Bool.true_and, Bool.and_false, Bool.false_and, Bool.and_self]
        · simp (disch := omega) only [dpos, dneg, cond_true, cond_false, Option.bind_some, Bool.and_true, Bool.true_and, Bool.and_false, Bool.false_and, Bool.and_self]
          rw [loopK_succ]
          simp only [s2]
          rfl
end Go.Proofs.YtlamdneheilahaaDoor.Pl

/- Plain: the bytes of a key, and how bytes are cut; the laws PrfNests and PrfMany. -/
namespace Go.Proofs.YtlamdneheilahaaDoor.Pl
open Go
noncomputable section
def tt (k s : List UInt8) : Nat → List UInt8
  | 0 => []
  | i + 1 => hmac k (tt k s i ++ s ++ [iu8 ((i : Int) + 1)])
def oo (k s : List UInt8) : Nat → List UInt8
  | 0 => []
  | i + 1 => oo k s i ++ tt k s (i + 1)
theorem tt_len (k s : List UInt8) (i : Nat) : (tt k s i).length ≤ 32 := by
  cases i with
  | zero => simp [tt]
  | succ i => rw [tt, hmac_len]; exact Nat.le_refl _
theorem oo_len (k s : List UInt8) (i : Nat) : (oo k s i).length = 32 * i := by
  induction i with
  | zero => rfl
  | succ i ih => rw [oo, List.length_append, ih, tt, hmac_len]; omega
def plus (k s : List UInt8) (n : Nat) : List UInt8 := (oo k s ((n + 31) / 32)).take n
theorem plus_len (k s : List UInt8) (n : Nat) : (plus k s n).length = n := by
  unfold plus; rw [List.length_take, oo_len]; omega
theorem prf_plus (N : Nat) {k s : List UInt8} {n : Int} (hk : k.length ≤ 17592186044416) (hs : s.length ≤ 8796093022208) (h0 : 0 ≤ n) (h1 : n ≤ 8160) (hN : 4611686018427387904 ≤ N) :
    prf_Plus N k s n = some ((plus k s n.toNat, 0, ()), ()) := by
  obtain ⟨m, rfl⟩ := Int.eq_ofNat_of_zero_le h0
  unfold prf_Plus prf_Plus_1
  simp (disch := omega) only [dpos, dneg, w64_of, inR_of, room_of, tmod_of, cond_true, cond_false, Bool.and_self, Bool.and_true, Bool.true_and, Bool.and_false, Bool.false_and, Bool.not_true, Bool.not_false, Option.bind_some, List.length_cons, List.length_nil, Nat.zero_add, Int.toNat_natCast]
  obtain ⟨c, hc⟩ : ∃ c, c = (m + 31) / 32 := ⟨_, rfl⟩
  have hcN : c < N := by omega
  unfold prf_Plus_2
  refine (loopK_run (fun i : Nat => ((k, s, (m : Int), (i : Int) + 1, ()), (oo k s i, tt k s i, ()))) (n := c) ?_ (e := (((m : Int), ()), (oo k s c, ()))) ?_ hcN).trans ?_
  · intro i hi
    have l1 := oo_len k s i
    have l2 := tt_len k s i
    have l3 := hmac_len k (tt k s i ++ s ++ [iu8 ((i : Int) + 1)])
    have l4 : (tt k s i ++ s).length ≤ 8796093022308 := by rw [List.length_append]; omega
    have l5 : (tt k s i ++ s ++ [iu8 ((i : Int) + 1)]).length ≤ 8796093022408 := by simp; omega
    show prf_Plus_s3 N k s _ _ _ _ = _
    unfold prf_Plus_s3
    simp (disch := omega) only [dpos, dneg, w64_of, inR_of, room_of, tmod_of, cond_true, cond_false, Bool.and_self, Bool.and_true, Bool.true_and, Bool.and_false, Bool.false_and, Bool.not_true, Bool.not_false, Option.bind_some, List.length_cons, List.length_nil, Nat.zero_add, prf_hmac, oo, tt, Int.natCast_add, Int.natCast_one]
  · have l1 := oo_len k s c
    show prf_Plus_s3 N k s _ _ _ _ = _
    unfold prf_Plus_s3
    simp (disch := omega) only [dpos, dneg, w64_of, inR_of, room_of, tmod_of, cond_true, cond_false, Bool.and_self, Bool.and_true, Bool.true_and, Bool.and_false, Bool.false_and, Bool.not_true, Bool.not_false, Option.bind_some, List.length_cons, List.length_nil, Nat.zero_add]
  · have l1 := oo_len k s c
    show prf_Plus_4 N _ (oo k s c) = _
    unfold prf_Plus_4
    simp (disch := omega) only [dpos, dneg, w64_of, inR_of, room_of, tmod_of, cond_true, cond_false, Bool.and_self, Bool.and_true, Bool.true_and, Bool.and_false, Bool.false_and, Bool.not_true, Bool.not_false, Option.bind_some, List.length_cons, List.length_nil, Nat.zero_add, Int.toNat_natCast, cut, List.drop_zero, plus, ← hc]
theorem ref_plus (N : Nat) {k s : List UInt8} {n : Int} (hk : k.length ≤ 17592186044416) (hs : s.length ≤ 8796093022208) (h0 : 0 ≤ n) (h1 : n ≤ 8160) (hN : 4611686018427387904 ≤ N) :
    ref09_Plus N k s n = some ((plus k s n.toNat, 0, ()), ()) := by
  obtain ⟨m, rfl⟩ := Int.eq_ofNat_of_zero_le h0
  unfold ref09_Plus ref09_Plus_1
  simp (disch := omega) only [dpos, dneg, w64_of, inR_of, room_of, tmod_of, cond_true, cond_false, Bool.and_self, Bool.and_true, Bool.true_and, Bool.and_false, Bool.false_and, Bool.not_true, Bool.not_false, Option.bind_some, List.length_cons, List.length_nil, Nat.zero_add, Int.toNat_natCast]
  obtain ⟨c, hc⟩ : ∃ c, c = (m + 31) / 32 := ⟨_, rfl⟩
  have hcN : c < N := by omega
  unfold ref09_Plus_2
  refine (loopK_run (fun i : Nat => ((k, s, (m : Int), (i : Int) + 1, ()), (oo k s i, tt k s i, ()))) (n := c) ?_ (e := (((m : Int), ()), (oo k s c, ()))) ?_ hcN).trans ?_
  · intro i hi
    have l1 := oo_len k s i
    have l2 := tt_len k s i
    have l3 := hmac_len k (tt k s i ++ s ++ [iu8 ((i : Int) + 1)])
    have l5 : (tt k s i ++ s ++ [iu8 ((i : Int) + 1)]).length ≤ 8796093022408 := by simp; omega
    have j : ref09_Join N [tt k s i, s, [iu8 ((i : Int) + 1)]] = some ((), (tt k s i ++ s ++ [iu8 ((i : Int) + 1)], ())) := join3 N (by simp; omega) hN
    show ref09_Plus_s3 N k s _ _ _ _ = _
    unfold ref09_Plus_s3
    simp (disch := omega) only [dpos, dneg, w64_of, inR_of, room_of, tmod_of, cond_true, cond_false, Bool.and_self, Bool.and_true, Bool.true_and, Bool.and_false, Bool.false_and, Bool.not_true, Bool.not_false, Option.bind_some, List.length_cons, List.length_nil, Nat.zero_add, j, ref_hmac, oo, tt, Int.natCast_add, Int.natCast_one]
  · have l1 := oo_len k s c
    show ref09_Plus_s3 N k s _ _ _ _ = _
    unfold ref09_Plus_s3
    simp (disch := omega) only [dpos, dneg, w64_of, inR_of, room_of, tmod_of, cond_true, cond_false, Bool.and_self, Bool.and_true, Bool.true_and, Bool.and_false, Bool.false_and, Bool.not_true, Bool.not_false, Option.bind_some, List.length_cons, List.length_nil, Nat.zero_add]
  · have l1 := oo_len k s c
    show ref09_Plus_4 N _ (oo k s c) = _
    unfold ref09_Plus_4
    simp (disch := omega) only [dpos, dneg, w64_of, inR_of, room_of, tmod_of, cond_true, cond_false, Bool.and_self, Bool.and_true, Bool.true_and, Bool.and_false, Bool.false_and, Bool.not_true, Bool.not_false, Option.bind_some, List.length_cons, List.length_nil, Nat.zero_add, Int.toNat_natCast, cut, List.drop_zero, plus, ← hc]
end
end Go.Proofs.YtlamdneheilahaaDoor.Pl

/- Plain: how bytes are cut into pieces; the law PrfMany. -/
namespace Go.Proofs.YtlamdneheilahaaDoor.Pl
open Go
noncomputable section
def spl : List UInt8 → List Int → Option (List (List UInt8))
  | _, [] => some []
  | b, n :: ns => if n < 0 ∨ (b.length : Int) < n then none else (spl (b.drop n.toNat) ns).map (b.take n.toNat :: ·)
theorem spl_cons (b : List UInt8) (n : Int) (ns : List Int) : spl b (n :: ns) = if n < 0 ∨ (b.length : Int) < n then none else (spl (b.drop n.toNat) ns).map (b.take n.toNat :: ·) := by rw [spl]
def splR : Option (List (List UInt8)) → (Bool × Unit) × (List (List UInt8) × Unit)
  | some l => ((true, ()), (l, ()))
  | none => ((false, ()), ([], ()))
theorem spl_elem {b : List UInt8} {ns : List Int} {l : List (List UInt8)} (h : spl b ns = some l) : l.length = ns.length ∧ ∀ x ∈ l, x.length ≤ b.length := by
  induction ns generalizing b l with
  | nil => simp [spl] at h; subst h; simp
  | cons n ns ih =>
    unfold spl at h
    split at h
    · cases h
    · obtain ⟨m, hm, rfl⟩ := Option.map_eq_some_iff.1 h
      obtain ⟨h1, h2⟩ := ih hm
      refine ⟨by simp [h1], fun x hx => ?_⟩
      rcases List.mem_cons.1 hx with rfl | hx
      · simp; omega
      · have := h2 x hx; simp at this; omega
theorem drop_getD {sizes : List Int} {i : Nat} (h : i < sizes.length) : sizes.drop i = sizes.getD i 0 :: sizes.drop (i + 1) := by
  rw [List.drop_eq_getElem_cons h]; simp [List.getD, h]
theorem prf_split (N : Nat) {b : List UInt8} {sizes : List Int} (hb : b.length ≤ 17592186044416) (hs : sizes.length ≤ 1000000) (hN : 4611686018427387904 ≤ N) : prf_Split N b sizes = some (splR (spl b sizes)) := by
  unfold prf_Split prf_Split_1
  have := loopK_of (N := N) (step := fun y => prf_Split_s2 N y.1.1 y.1.2.1 y.1.2.2.1 y.1.2.2.2.1 y.2.1) (J := fun (e : ((Unit) × ((List (List UInt8)) × Unit))) => prf_Split_3 N e.2.1)
    (I := fun y => y.1.2.1 = sizes ∧ y.1.2.2.1 = (sizes.length : Int) ∧ 0 ≤ y.1.2.2.2.1 ∧ y.1.2.2.2.1 ≤ (sizes.length : Int) ∧ y.1.1.length ≤ b.length ∧ y.2.1.length = y.1.2.2.2.1.toNat ∧ spl b sizes = (spl y.1.1 (sizes.drop y.1.2.2.2.1.toNat)).map (y.2.1 ++ ·))
    (μ := fun y => ((sizes.length : Int) - y.1.2.2.2.1).toNat) (T := fun r => r = splR (spl b sizes)) ?_
    (x := ((b, sizes, (sizes.length : Int), 0, ()), ([], ()))) ⟨rfl, rfl, by simp, by simp, by simp, by simp, by simp⟩ (by simp; omega)
  · obtain ⟨r, h1, rfl⟩ := this
    exact h1
  · rintro ⟨⟨b', sz, n, i, _⟩, ⟨l, _⟩⟩ ⟨h1, h2, h3, h4, h5, h6, h7⟩
    simp only at h1 h2 h3 h4 h5 h6 h7
    subst h1; subst h2
    obtain ⟨k, rfl⟩ := Int.eq_ofNat_of_zero_le h3
    simp only [Int.toNat_natCast] at h6 h7
    show ∃ o, prf_Split_s2 N b' sz (sz.length : Int) (k : Int) l = some o ∧ _
    unfold prf_Split_s2
    by_cases hk : (k : Int) < (sz.length : Int)
    · rw [drop_getD (by omega)] at h7
      simp (disch := omega) only [dpos, dneg, w64_of, inR_of, room_of, tmod_of, cond_true, cond_false, Bool.and_self, Bool.and_true, Bool.true_and, Bool.and_false, Bool.false_and, Bool.not_true, Bool.not_false, Option.bind_some, List.length_cons, List.length_nil, Nat.zero_add, Int.toNat_natCast]
      rw [spl_cons] at h7
      by_cases c1 : sz.getD k 0 < 0
      · rw [if_pos (.inl c1)] at h7
        simp (disch := omega) only [dpos, dneg, w64_of, inR_of, room_of, tmod_of, cond_true, cond_false, Bool.and_self, Bool.and_true, Bool.true_and, Bool.and_false, Bool.false_and, Bool.not_true, Bool.not_false, Option.bind_some, List.length_cons, List.length_nil, Nat.zero_add]
        exact ⟨_, rfl, by simp [h7, splR]⟩
      · by_cases c2 : (b'.length : Int) < sz.getD k 0
        · rw [if_pos (.inr c2)] at h7
          simp (disch := omega) only [dpos, dneg, w64_of, inR_of, room_of, tmod_of, cond_true, cond_false, Bool.and_self, Bool.and_true, Bool.true_and, Bool.and_false, Bool.false_and, Bool.not_true, Bool.not_false, Option.bind_some, List.length_cons, List.length_nil, Nat.zero_add]
          exact ⟨_, rfl, by simp [h7, splR]⟩
        · rw [if_neg (by omega)] at h7
          simp (disch := omega) only [dpos, dneg, w64_of, inR_of, room_of, tmod_of, cond_true, cond_false, Bool.and_self, Bool.and_true, Bool.true_and, Bool.and_false, Bool.false_and, Bool.not_true, Bool.not_false, Option.bind_some, List.length_cons, List.length_nil, Nat.zero_add]
          have hd : cut b' (sz.getD k 0).toNat b'.length = b'.drop (sz.getD k 0).toNat := by simp [cut]
          have ht : cut b' 0 (sz.getD k 0).toNat = b'.take (sz.getD k 0).toNat := by simp [cut]
          rw [hd, ht]
          refine ⟨_, rfl, ⟨rfl, rfl, by simp only; omega, by simp only; omega, by simp; omega, by simp; omega, ?_⟩, by simp only; omega⟩
          simp only [show ((k : Int) + 1).toNat = k + 1 by omega]
          rw [h7, Option.map_map]
          congr 1
          funext y
          simp
    · have hke : k = sz.length := by omega
      subst hke
      simp (disch := omega) only [dpos, dneg, w64_of, inR_of, room_of, tmod_of, cond_true, cond_false, Bool.and_self, Bool.and_true, Bool.true_and, Bool.and_false, Bool.false_and, Bool.not_true, Bool.not_false, Option.bind_some, List.length_cons, List.length_nil, Nat.zero_add]
      refine ⟨_, rfl, _, rfl, ?_⟩
      rw [h7, List.drop_length]
      simp [spl, splR]
theorem ref_split (N : Nat) {b : List UInt8} {sizes : List Int} (hb : b.length ≤ 17592186044416) (hs : sizes.length ≤ 1000000) (hN : 4611686018427387904 ≤ N) : ref09_Split N b sizes = some (splR (spl b sizes)) := by
  unfold ref09_Split ref09_Split_1
  have := loopK_of (N := N) (step := fun y => ref09_Split_s2 N y.1.1 y.1.2.1 y.1.2.2.1 y.1.2.2.2.1 y.2.1) (J := fun (e : ((Unit) × ((List (List UInt8)) × Unit))) => ref09_Split_3 N e.2.1)
    (I := fun y => y.1.1 = b ∧ y.1.2.1 = sizes ∧ 0 ≤ y.1.2.2.1 ∧ y.1.2.2.1 ≤ (b.length : Int) ∧ 0 ≤ y.1.2.2.2.1 ∧ y.1.2.2.2.1 ≤ (sizes.length : Int) ∧ y.2.1.length = y.1.2.2.2.1.toNat ∧ spl b sizes = (spl (b.drop y.1.2.2.1.toNat) (sizes.drop y.1.2.2.2.1.toNat)).map (y.2.1 ++ ·))
    (μ := fun y => ((sizes.length : Int) - y.1.2.2.2.1).toNat) (T := fun r => r = splR (spl b sizes)) ?_
    (x := ((b, sizes, 0, 0, ()), ([], ()))) ⟨rfl, rfl, by simp, by simp, by simp, by simp, by simp, by simp⟩ (by simp; omega)
  · obtain ⟨r, h1, rfl⟩ := this
    exact h1
  · rintro ⟨⟨b', sz, at_, i, _⟩, ⟨l, _⟩⟩ ⟨h1, h2, h3, h4, h3', h4', h6, h7⟩
    simp only at h1 h2 h3 h4 h3' h4' h6 h7
    subst h1; subst h2
    obtain ⟨k, rfl⟩ := Int.eq_ofNat_of_zero_le h3'
    obtain ⟨a, rfl⟩ := Int.eq_ofNat_of_zero_le h3
    simp only [Int.toNat_natCast] at h6 h7
    show ∃ o, ref09_Split_s2 N b' sz (a : Int) (k : Int) l = some o ∧ _
    unfold ref09_Split_s2
    by_cases hk : (k : Int) < (sz.length : Int)
    · rw [drop_getD (by omega)] at h7
      simp (disch := omega) only [dpos, dneg, w64_of, inR_of, room_of, tmod_of, cond_true, cond_false, Bool.and_self, Bool.and_true, Bool.true_and, Bool.and_false, Bool.false_and, Bool.not_true, Bool.not_false, Option.bind_some, List.length_cons, List.length_nil, Nat.zero_add, Int.toNat_natCast]
      rw [spl_cons] at h7
      have hdl : ((b'.drop a).length : Int) = (b'.length : Int) - (a : Int) := by simp; omega
      by_cases c1 : sz.getD k 0 < 0
      · rw [if_pos (.inl c1)] at h7
        simp (disch := omega) only [dpos, dneg, w64_of, inR_of, room_of, tmod_of, cond_true, cond_false, Bool.and_self, Bool.and_true, Bool.true_and, Bool.and_false, Bool.false_and, Bool.not_true, Bool.not_false, Option.bind_some, List.length_cons, List.length_nil, Nat.zero_add]
        exact ⟨_, rfl, by simp [h7, splR]⟩
      · by_cases c2 : (b'.length : Int) - (a : Int) < sz.getD k 0
        · rw [if_pos (.inr (by omega))] at h7
          simp (disch := omega) only [dpos, dneg, w64_of, inR_of, room_of, tmod_of, cond_true, cond_false, Bool.and_self, Bool.and_true, Bool.true_and, Bool.and_false, Bool.false_and, Bool.not_true, Bool.not_false, Option.bind_some, List.length_cons, List.length_nil, Nat.zero_add]
          exact ⟨_, rfl, by simp [h7, splR]⟩
        · rw [if_neg (by omega)] at h7
          have hc : cut b' a ((a : Int) + sz.getD k 0).toNat = (b'.drop a).take (sz.getD k 0).toNat := by
            rw [show ((a : Int) + sz.getD k 0).toNat = a + (sz.getD k 0).toNat by omega, cut_at]
          have hcl : ((b'.drop a).take (sz.getD k 0).toNat).length ≤ b'.length := by simp; omega
          simp (disch := omega) only [dpos, dneg, w64_of, inR_of, room_of, tmod_of, cond_true, cond_false, Bool.and_self, Bool.and_true, Bool.true_and, Bool.and_false, Bool.false_and, Bool.not_true, Bool.not_false, Option.bind_some, List.length_cons, List.length_nil, Nat.zero_add, Int.toNat_natCast, hc]
          refine ⟨_, rfl, ⟨rfl, rfl, by simp only; omega, by simp only; omega, by simp only; omega, by simp only; omega, by simp; omega, ?_⟩, by simp only; omega⟩
          simp only [show ((k : Int) + 1).toNat = k + 1 by omega, show ((a : Int) + sz.getD k 0).toNat = a + (sz.getD k 0).toNat by omega]
          rw [h7, Option.map_map, List.drop_drop]
          congr 1
          funext y
          simp
    · have hke : k = sz.length := by omega
      subst hke
      simp (disch := omega) only [dpos, dneg, w64_of, inR_of, room_of, tmod_of, cond_true, cond_false, Bool.and_self, Bool.and_true, Bool.true_and, Bool.and_false, Bool.false_and, Bool.not_true, Bool.not_false, Option.bind_some, List.length_cons, List.length_nil, Nat.zero_add]
      refine ⟨_, rfl, _, rfl, ?_⟩
      rw [h7, List.drop_length]
      simp [spl, splR]
/-- Bytes of a key, or the error. -/
def pl (k s : List UInt8) (n : Int) : List UInt8 × Int := if n < 0 ∨ 8160 < n then ([], 5) else (plus k s n.toNat, 0)
theorem pl_len (k s : List UInt8) (n : Int) : (pl k s n).1.length ≤ 8160 := by
  unfold pl; split
  · simp
  · simp only [plus_len]; omega
theorem prf_pl (N : Nat) {k s : List UInt8} (n : Int) (hk : k.length ≤ 17592186044416) (hs : s.length ≤ 8796093022208) (hN : 4611686018427387904 ≤ N) :
    prf_Plus N k s n = some (((pl k s n).1, (pl k s n).2, ()), ()) := by
  unfold pl
  by_cases h : n < 0
  · unfold prf_Plus prf_Plus_1; simp (disch := omega) only [dpos, dneg, w64_of, inR_of, room_of, tmod_of, cond_true, cond_false, Bool.and_self, Bool.and_true, Bool.true_and, Bool.and_false, Bool.false_and, Bool.not_true, Bool.not_false, Option.bind_some, List.length_cons, List.length_nil, Nat.zero_add, if_pos]
  · by_cases h' : 8160 < n
    · unfold prf_Plus prf_Plus_1; simp (disch := omega) only [dpos, dneg, w64_of, inR_of, room_of, tmod_of, cond_true, cond_false, Bool.and_self, Bool.and_true, Bool.true_and, Bool.and_false, Bool.false_and, Bool.not_true, Bool.not_false, Option.bind_some, List.length_cons, List.length_nil, Nat.zero_add, if_pos]
    · rw [prf_plus N hk hs (by omega) (by omega) hN]; simp (disch := omega) only [if_neg]
theorem ref_pl (N : Nat) {k s : List UInt8} (n : Int) (hk : k.length ≤ 17592186044416) (hs : s.length ≤ 8796093022208) (hN : 4611686018427387904 ≤ N) :
    ref09_Plus N k s n = some (((pl k s n).1, (pl k s n).2, ()), ()) := by
  unfold pl
  by_cases h : n < 0
  · unfold ref09_Plus ref09_Plus_1; simp (disch := omega) only [dpos, dneg, w64_of, inR_of, room_of, tmod_of, cond_true, cond_false, Bool.and_self, Bool.and_true, Bool.true_and, Bool.and_false, Bool.false_and, Bool.not_true, Bool.not_false, Option.bind_some, List.length_cons, List.length_nil, Nat.zero_add, if_pos]
  · by_cases h' : 8160 < n
    · unfold ref09_Plus ref09_Plus_1; simp (disch := omega) only [dpos, dneg, w64_of, inR_of, room_of, tmod_of, cond_true, cond_false, Bool.and_self, Bool.and_true, Bool.true_and, Bool.and_false, Bool.false_and, Bool.not_true, Bool.not_false, Option.bind_some, List.length_cons, List.length_nil, Nat.zero_add, if_pos]
    · rw [ref_plus N hk hs (by omega) (by omega) hN]; simp (disch := omega) only [if_neg]
end
end Go.Proofs.YtlamdneheilahaaDoor.Pl

/- Plain: the maker of inputs (shallow functions of make). -/
namespace Go.Proofs.YtlamdneheilahaaDoor.Pl
open Go

/-- A maker whose place lies in its list. -/
def COk (c : List UInt8 × (Int × Unit)) : Prop := 0 ≤ c.2.1 ∧ c.2.1 ≤ (c.1.length : Int) ∧ c.1.length ≤ 1000000000000000
theorem next_ok (N : Nat) {c : List UInt8 × (Int × Unit)} {n : Int} (h : COk c) (hn : 0 < n) : ∃ v c', make_Codes_Next N n c = some ((v, ()), (c', ())) ∧ 0 ≤ v ∧ v < n ∧ COk c' := by
  obtain ⟨l, i, u⟩ := c
  obtain ⟨h1, h2, h3⟩ := h
  simp only at h1 h2 h3
  have hb : (l.length : Int) ≤ 1000000000000000 := by omega
  unfold make_Codes_Next make_Codes_Left
  simp only [Option.bind]
  by_cases hlt : i < (l.length : Int)
  · have e1 : w64 (i + 1) = i + 1 := w64_of (by omega) (by omega)
    have e2 : w64 (i + 1 - 1) = i := by rw [w64_of (by omega) (by omega)]; omega
    simp only [hlt, decide_true, Bool.not_true, cond_false, e1, e2]
    have e3 : inR i l.length = true := by simp [inR, h1, hlt]
    have e4 : (!(decide (n = 0))) = true := by simp; omega
    simp only [e3, e4, cond_true]
    refine ⟨_, _, rfl, ?_, ?_, by simp only; omega, by simp only; omega, h3⟩
    · exact Int.tmod_nonneg _ (by omega)
    · exact Int.tmod_lt_of_pos _ hn
  · simp only [hlt, decide_false, Bool.not_false, cond_true]
    exact ⟨0, _, rfl, by omega, hn, h1, h2, h3⟩
theorem bytes_ok {N : Nat} {c : List UInt8 × (Int × Unit)} {n : Int} (h : COk c) (h0 : 0 ≤ n) (hn : n ≤ 1000000) (hN : n.toNat < N) : ∃ c' out, make_Codes_Bytes N n c = some ((), (c', out, ())) ∧ out.length = n.toNat ∧ COk c' := by
  unfold make_Codes_Bytes make_Codes_Bytes_1
  have := loopK_of (N := N) (step := fun y => make_Codes_Bytes_s2 N y.1.1 y.1.2.1 y.2.1 y.2.2.1) (J := fun (e : ((Unit) × (((List UInt8) × (Int × Unit)) × (List UInt8) × Unit))) => make_Codes_Bytes_3 N e.2.1 e.2.2.1)
    (I := fun y => y.1.1 = n ∧ 0 ≤ y.1.2.1 ∧ y.1.2.1 ≤ n ∧ COk y.2.1 ∧ y.2.2.1.length = y.1.2.1.toNat) (μ := fun y => (n - y.1.2.1).toNat) (T := fun r => ∃ c' out, r = ((), (c', out, ())) ∧ out.length = n.toNat ∧ COk c') ?_
    (x := ((n, 0, ()), (c, [], ()))) ⟨rfl, by simp, by simpa using h0, h, by simp⟩ (by simpa using hN)
  · obtain ⟨r, h1, c', out, rfl, h2, h3⟩ := this
    exact ⟨c', out, h1, h2, h3⟩
  · rintro ⟨⟨n', i, _⟩, ⟨p, out, _⟩⟩ ⟨h1, h2, h3, h4, h5⟩
    simp only at h1 h2 h3 h4 h5
    subst h1
    simp only [make_Codes_Bytes_s2]
    by_cases hlt : i < n'
    · obtain ⟨v, c', e, h6, h7, h8⟩ := next_ok N (n := 256) h4 (by omega)
      have e1 : w64 (i + 1) = i + 1 := w64_of (by omega) (by omega)
      simp only [hlt, decide_true, cond_true, e, Option.bind]
      have e2 : room (out.length + [iu8 (w64 (v + w64 (i * 7)))].length) 1 = true := by
        unfold room; simp; omega
      rw [e2, cond_true, e1]
      refine ⟨_, rfl, ⟨rfl, by simp only; omega, by simp only; omega, h8, by simp; omega⟩, by simp only; omega⟩
    · simp only [hlt, decide_false, cond_false]
      refine ⟨_, rfl, _, rfl, p, out, rfl, by rw [h5]; congr 1; omega, h4⟩
theorem new_ok (N : Nat) (l : List UInt8) {m : Int} (h0 : 0 ≤ m) (hm : m ≤ 1000000) : ∃ c, make_New N l m = some ((), (c, ())) ∧ COk c := by
  unfold make_New
  by_cases hlt : m < (l.length : Int)
  · simp only [hlt, decide_true, cond_true, h0, Int.le_refl, Bool.and_self, show m ≤ (l.length : Int) by omega]
    exact ⟨_, rfl, by simp, by simp, by simp [cut]; omega⟩
  · simp only [hlt, decide_false, cond_false]
    exact ⟨_, rfl, by simp, by simp, by simp only; omega⟩
end Go.Proofs.YtlamdneheilahaaDoor.Pl

/- Plain: the keys that are derived; the law KeysDerive. -/
namespace Go.Proofs.YtlamdneheilahaaDoor.Pl
open Go
noncomputable section
theorem awake16 : law16_awake 18446744073709551616 = some ((true, ()), ()) := by kernel_rfl
theorem rnonces_ok (N : Nat) (a b : List UInt8) : ref16_nonces N a b = some ((nok a b, ()), ()) := by
  unfold ref16_nonces nok
  by_cases a1 : 16 ≤ a.length
  · by_cases a2 : a.length ≤ 256
    · by_cases b1 : 16 ≤ b.length
      · by_cases b2 : b.length ≤ 256 <;> simp (disch := omega) only [dpos, dneg, w64_of, inR_of, room_of, tmod_of, cond_true, cond_false, Bool.and_self, Bool.and_true, Bool.true_and, Bool.and_false, Bool.false_and, Bool.not_true, Bool.not_false, Option.bind_some, List.length_cons, List.length_nil, Nat.zero_add]
      · simp (disch := omega) only [dpos, dneg, w64_of, inR_of, room_of, tmod_of, cond_true, cond_false, Bool.and_self, Bool.and_true, Bool.true_and, Bool.and_false, Bool.false_and, Bool.not_true, Bool.not_false, Option.bind_some, List.length_cons, List.length_nil, Nat.zero_add]
    · simp (disch := omega) only [dpos, dneg, w64_of, inR_of, room_of, tmod_of, cond_true, cond_false, Bool.and_self, Bool.and_true, Bool.true_and, Bool.and_false, Bool.false_and, Bool.not_true, Bool.not_false, Option.bind_some, List.length_cons, List.length_nil, Nat.zero_add]
  · simp (disch := omega) only [dpos, dneg, w64_of, inR_of, room_of, tmod_of, cond_true, cond_false, Bool.and_self, Bool.and_true, Bool.true_and, Bool.and_false, Bool.false_and, Bool.not_true, Bool.not_false, Option.bind_some, List.length_cons, List.length_nil, Nat.zero_add]
def kseed (a b s : List UInt8) : List UInt8 × Int := if nok a b = true ∧ s.length ≠ 0 then (hmac (a ++ b) s, 0) else ([], 13)
def krekey (d a b s : List UInt8) : List UInt8 × Int := if nok a b = true ∧ s.length ≠ 0 then (hmac d (s ++ a ++ b), 0) else ([], 13)
section
variable (N : Nat) {a b s d : List UInt8} (ha : a.length ≤ 4398046511104) (hb : b.length ≤ 4398046511104) (hs : s.length ≤ 4398046511104) (hd : d.length ≤ 4398046511104) (hN : 4611686018427387904 ≤ N)
include ha hb hs hN
theorem kseed_ok : keys_Seed N a b s = some (((kseed a b s).2, ()), ((kseed a b s).1, ())) := by
  unfold keys_Seed keys_Seed_1 kseed
  have l : (a ++ b).length ≤ 17592186044416 := by rw [List.length_append]; omega
  rw [nonces_ok N a b (by omega) (by omega) hN]
  cases nok a b
  · simp only [dpos, dneg, w64_of, inR_of, room_of, tmod_of, cond_true, cond_false, Bool.and_self, Bool.and_true, Bool.true_and, Bool.and_false, Bool.false_and, Bool.not_true, Bool.not_false, Option.bind_some, List.length_cons, List.length_nil, Nat.zero_add, Bool.false_eq_true, false_and, if_false]
  · by_cases h : s.length = 0
    · simp (disch := omega) only [dpos, dneg, w64_of, inR_of, room_of, tmod_of, cond_true, cond_false, Bool.and_self, Bool.and_true, Bool.true_and, Bool.and_false, Bool.false_and, Bool.not_true, Bool.not_false, Option.bind_some, List.length_cons, List.length_nil, Nat.zero_add, h, ne_eq, not_true_eq_false, and_false, if_false]
    · simp (disch := omega) only [dpos, dneg, w64_of, inR_of, room_of, tmod_of, cond_true, cond_false, Bool.and_self, Bool.and_true, Bool.true_and, Bool.and_false, Bool.false_and, Bool.not_true, Bool.not_false, Option.bind_some, List.length_cons, List.length_nil, Nat.zero_add, h, ne_eq, not_false_eq_true, and_self, if_true, kjoin2, prf_hmac]
theorem rseed_ok : ref16_Seed N a b s = some (((kseed a b s).2, ()), ((kseed a b s).1, ())) := by
  unfold ref16_Seed ref16_Seed_1 kseed
  have l : (a ++ b).length ≤ 17592186044416 := by rw [List.length_append]; omega
  rw [rnonces_ok]
  cases nok a b
  · simp only [dpos, dneg, w64_of, inR_of, room_of, tmod_of, cond_true, cond_false, Bool.and_self, Bool.and_true, Bool.true_and, Bool.and_false, Bool.false_and, Bool.not_true, Bool.not_false, Option.bind_some, List.length_cons, List.length_nil, Nat.zero_add, Bool.false_eq_true, false_and, if_false]
  · by_cases h : s.length = 0
    · simp (disch := omega) only [dpos, dneg, w64_of, inR_of, room_of, tmod_of, cond_true, cond_false, Bool.and_self, Bool.and_true, Bool.true_and, Bool.and_false, Bool.false_and, Bool.not_true, Bool.not_false, Option.bind_some, List.length_cons, List.length_nil, Nat.zero_add, h, ne_eq, not_true_eq_false, and_false, if_false]
    · simp (disch := omega) only [dpos, dneg, w64_of, inR_of, room_of, tmod_of, cond_true, cond_false, Bool.and_self, Bool.and_true, Bool.true_and, Bool.and_false, Bool.false_and, Bool.not_true, Bool.not_false, Option.bind_some, List.length_cons, List.length_nil, Nat.zero_add, h, ne_eq, not_false_eq_true, and_self, if_true, join2, ref_hmac]
include hd
theorem krekey_ok : keys_Rekey N d a b s = some (((krekey d a b s).2, ()), ((krekey d a b s).1, ())) := by
  unfold keys_Rekey keys_Rekey_1 krekey
  have l : (s ++ a ++ b).length ≤ 17592186044416 := by rw [List.length_append, List.length_append]; omega
  rw [nonces_ok N a b (by omega) (by omega) hN]
  cases nok a b
  · simp only [dpos, dneg, w64_of, inR_of, room_of, tmod_of, cond_true, cond_false, Bool.and_self, Bool.and_true, Bool.true_and, Bool.and_false, Bool.false_and, Bool.not_true, Bool.not_false, Option.bind_some, List.length_cons, List.length_nil, Nat.zero_add, Bool.false_eq_true, false_and, if_false]
  · by_cases h : s.length = 0
    · simp (disch := omega) only [dpos, dneg, w64_of, inR_of, room_of, tmod_of, cond_true, cond_false, Bool.and_self, Bool.and_true, Bool.true_and, Bool.and_false, Bool.false_and, Bool.not_true, Bool.not_false, Option.bind_some, List.length_cons, List.length_nil, Nat.zero_add, h, ne_eq, not_true_eq_false, and_false, if_false]
    · simp (disch := omega) only [dpos, dneg, w64_of, inR_of, room_of, tmod_of, cond_true, cond_false, Bool.and_self, Bool.and_true, Bool.true_and, Bool.and_false, Bool.false_and, Bool.not_true, Bool.not_false, Option.bind_some, List.length_cons, List.length_nil, Nat.zero_add, h, ne_eq, not_false_eq_true, and_self, if_true, kjoin3, prf_hmac]
theorem rrekey_ok : ref16_Rekey N d a b s = some (((krekey d a b s).2, ()), ((krekey d a b s).1, ())) := by
  unfold ref16_Rekey ref16_Rekey_1 krekey
  have l : (s ++ a ++ b).length ≤ 17592186044416 := by rw [List.length_append, List.length_append]; omega
  rw [rnonces_ok]
  cases nok a b
  · simp only [dpos, dneg, w64_of, inR_of, room_of, tmod_of, cond_true, cond_false, Bool.and_self, Bool.and_true, Bool.true_and, Bool.and_false, Bool.false_and, Bool.not_true, Bool.not_false, Option.bind_some, List.length_cons, List.length_nil, Nat.zero_add, Bool.false_eq_true, false_and, if_false]
  · by_cases h : s.length = 0
    · simp (disch := omega) only [dpos, dneg, w64_of, inR_of, room_of, tmod_of, cond_true, cond_false, Bool.and_self, Bool.and_true, Bool.true_and, Bool.and_false, Bool.false_and, Bool.not_true, Bool.not_false, Option.bind_some, List.length_cons, List.length_nil, Nat.zero_add, h, ne_eq, not_true_eq_false, and_false, if_false]
    · simp (disch := omega) only [dpos, dneg, w64_of, inR_of, room_of, tmod_of, cond_true, cond_false, Bool.and_self, Bool.and_true, Bool.true_and, Bool.and_false, Bool.false_and, Bool.not_true, Bool.not_false, Option.bind_some, List.length_cons, List.length_nil, Nat.zero_add, h, ne_eq, not_false_eq_true, and_self, if_true, join3, ref_hmac]
end
/-- A piece. -/
def pc (x : List UInt8) (o n : Nat) : List UInt8 := (x.drop o).take n
theorem pc_len {x : List UInt8} {o n : Nat} (h : o + n ≤ x.length) : (pc x o n).length = n := by simp [pc]; omega
theorem spl_pc {x : List UInt8} {o : Nat} {n : Int} {ns : List Int} (h0 : 0 ≤ n) (h : (o : Int) + n ≤ (x.length : Int)) : spl (x.drop o) (n :: ns) = (spl (x.drop (o + n.toNat)) ns).map (pc x o n.toNat :: ·) := by
  rw [spl_cons, if_neg (by rw [List.length_drop]; omega), List.drop_drop]; rfl
theorem spl6 {x : List UInt8} (h : x.length = 172) : spl x [32, 36, 36, 32, 32, 4] = some [pc x 0 32, pc x 32 36, pc x 68 36, pc x 104 32, pc x 136 32, pc x 168 4] := by
  rw [show x = x.drop 0 from rfl, spl_pc (x := x) (o := 0) (by omega) (by omega), spl_pc (x := x) (by omega) (by omega), spl_pc (x := x) (by omega) (by omega), spl_pc (x := x) (by omega) (by omega), spl_pc (x := x) (by omega) (by omega), spl_pc (x := x) (by omega) (by omega)]
  rfl
theorem spl5 {x : List UInt8} (h : x.length = 172) : spl x [32, 36, 36, 32, 32] = some [pc x 0 32, pc x 32 36, pc x 68 36, pc x 104 32, pc x 136 32] := by
  rw [show x = x.drop 0 from rfl, spl_pc (x := x) (o := 0) (by omega) (by omega), spl_pc (x := x) (by omega) (by omega), spl_pc (x := x) (by omega) (by omega), spl_pc (x := x) (by omega) (by omega), spl_pc (x := x) (by omega) (by omega)]
  rfl
theorem spl2 {x : List UInt8} (h : x.length = 72) : spl x [36, 36] = some [pc x 0 36, pc x 36 36] := by
  rw [show x = x.drop 0 from rfl, spl_pc (x := x) (o := 0) (by omega) (by omega), spl_pc (x := x) (by omega) (by omega)]
  rfl
def dkeys (s a b : List UInt8) (i r : UInt64) : List UInt8 × List UInt8 × List UInt8 × List UInt8 × List UInt8 × Unit :=
  let x := plus s (a ++ b ++ (be i 8 ++ be r 8)) 172
  (pc x 0 32, pc x 32 36, pc x 68 36, pc x 104 32, pc x 136 32, ())
def kderive (s a b : List UInt8) (i r : UInt64) : (List UInt8 × List UInt8 × List UInt8 × List UInt8 × List UInt8 × Unit) × Int :=
  if nok a b = true then (dkeys s a b i r, 0) else (([], [], [], [], [], ()), 13)
theorem kderive_sum (M : Nat) (s a b : List UInt8) (i r : UInt64) (t : List UInt8 × List UInt8 × List UInt8 × List UInt8 × List UInt8 × Unit) :
    keys_Derive_1 (M + 9) s a b i r 0 g_keys_sizes (g_keys_sizes.length : Int) 0 t = keys_Derive_3 (M + 9) s a b i r 172 t := by kernel_rfl
theorem sizes_eq : g_keys_sizes = [32, 36, 36, 32, 32, 4] := rfl
theorem kderive_ok (N : Nat) {s a b : List UInt8} (i r : UInt64) (hs : s.length ≤ 1000) (ha : a.length ≤ 1000) (hb : b.length ≤ 1000) (hN : 4611686018427387904 ≤ N) :
    keys_Derive N s a b i r = some (((kderive s a b i r).1, (kderive s a b i r).2, ()), ()) := by
  unfold keys_Derive kderive
  rw [nonces_ok N a b (by omega) (by omega) hN]
  cases nok a b
  · simp only [dpos, dneg, w64_of, inR_of, room_of, tmod_of, cond_true, cond_false, Bool.and_self, Bool.and_true, Bool.true_and, Bool.and_false, Bool.false_and, Bool.not_true, Bool.not_false, Option.bind_some, List.length_cons, List.length_nil, Nat.zero_add, Bool.false_eq_true, if_false]
  · simp only [dpos, dneg, w64_of, inR_of, room_of, tmod_of, cond_true, cond_false, Bool.and_self, Bool.and_true, Bool.true_and, Bool.and_false, Bool.false_and, Bool.not_true, Bool.not_false, Option.bind_some, List.length_cons, List.length_nil, Nat.zero_add, if_true]
    obtain ⟨M, hM⟩ := Nat.exists_eq_add_of_le' (show 9 ≤ N by omega)
    have : ∀ t, keys_Derive_1 N s a b i r 0 g_keys_sizes (g_keys_sizes.length : Int) 0 t = keys_Derive_3 N s a b i r 172 t := by intro t; rw [hM]; exact kderive_sum M s a b i r t
    rw [this]
    unfold keys_Derive_3
    have l1 := be_len i 8
    have l2 := be_len r 8
    have l3 : (be i 8 ++ be r 8).length = 16 := by rw [List.length_append]; omega
    have l4 : (a ++ b ++ (be i 8 ++ be r 8)).length ≤ 3000 := by rw [List.length_append, List.length_append]; omega
    have w1 : wire_Put N i 8 [] = some ((), (be i 8, ())) := by rw [wire_put N (by omega) (by omega) (by simp) (by omega)]; rfl
    have w2 : wire_Put N r 8 (be i 8) = some ((), (be i 8 ++ be r 8, ())) := by rw [wire_put N (by omega) (by omega) (by omega) (by omega)]; rfl
    have p1 : prf_Plus N s (a ++ b ++ (be i 8 ++ be r 8)) 172 = some ((plus s (a ++ b ++ (be i 8 ++ be r 8)) 172, 0, ()), ()) := prf_plus N (by omega) (by omega) (by omega) (by omega) hN
    have l5 := plus_len s (a ++ b ++ (be i 8 ++ be r 8)) 172
    have p2 : prf_Split N (plus s (a ++ b ++ (be i 8 ++ be r 8)) 172) g_keys_sizes = some (splR (some [pc (plus s (a ++ b ++ (be i 8 ++ be r 8)) 172) 0 32, pc (plus s (a ++ b ++ (be i 8 ++ be r 8)) 172) 32 36, pc (plus s (a ++ b ++ (be i 8 ++ be r 8)) 172) 68 36, pc (plus s (a ++ b ++ (be i 8 ++ be r 8)) 172) 104 32, pc (plus s (a ++ b ++ (be i 8 ++ be r 8)) 172) 136 32, pc (plus s (a ++ b ++ (be i 8 ++ be r 8)) 172) 168 4])) := by
      rw [prf_split N (by omega) (by rw [sizes_eq]; decide) hN, sizes_eq, spl6 l5]
    simp (disch := omega) only [dpos, dneg, w64_of, inR_of, room_of, tmod_of, cond_true, cond_false, Bool.and_self, Bool.and_true, Bool.true_and, Bool.and_false, Bool.false_and, Bool.not_true, Bool.not_false, Option.bind_some, List.length_cons, List.length_nil, Nat.zero_add, w1, w2, kjoin3, p1, p2, splR]
    rfl
theorem rderive_ok (N : Nat) {s a b : List UInt8} (i r : UInt64) (hs : s.length ≤ 1000) (ha : a.length ≤ 1000) (hb : b.length ≤ 1000) (hN : 4611686018427387904 ≤ N) :
    ref16_Derive N s a b i r = some (((kderive s a b i r).1, (kderive s a b i r).2, ()), ()) := by
  unfold ref16_Derive kderive
  rw [rnonces_ok]
  cases nok a b
  · simp only [dpos, dneg, w64_of, inR_of, room_of, tmod_of, cond_true, cond_false, Bool.and_self, Bool.and_true, Bool.true_and, Bool.and_false, Bool.false_and, Bool.not_true, Bool.not_false, Option.bind_some, List.length_cons, List.length_nil, Nat.zero_add, Bool.false_eq_true, if_false]
  · simp only [dpos, dneg, w64_of, inR_of, room_of, tmod_of, cond_true, cond_false, Bool.and_self, Bool.and_true, Bool.true_and, Bool.and_false, Bool.false_and, Bool.not_true, Bool.not_false, Option.bind_some, List.length_cons, List.length_nil, Nat.zero_add, if_true]
    have l1 := be_len i 8
    have l2 := be_len r 8
    have l0 : (a ++ b).length ≤ 2000 := by rw [List.length_append]; omega
    have l0' : (a ++ b ++ be i 8).length ≤ 2100 := by rw [List.length_append]; omega
    have l4 : (a ++ b ++ (be i 8 ++ be r 8)).length ≤ 3000 := by rw [List.length_append, List.length_append, List.length_append]; omega
    have w1 : ref01_Put N (a ++ b) i 8 = some ((), (a ++ b ++ be i 8, ())) := by rw [ref_put N (by omega) (by omega) (by omega) (by omega)]; rfl
    have w2 : ref01_Put N (a ++ b ++ be i 8) r 8 = some ((), (a ++ b ++ (be i 8 ++ be r 8), ())) := by rw [ref_put N (by omega) (by omega) (by omega) (by omega), List.append_assoc]; rfl
    have p1 : ref09_Plus N s (a ++ b ++ (be i 8 ++ be r 8)) 172 = some ((plus s (a ++ b ++ (be i 8 ++ be r 8)) 172, 0, ()), ()) := ref_plus N (by omega) (by omega) (by omega) (by omega) hN
    have l5 := plus_len s (a ++ b ++ (be i 8 ++ be r 8)) 172
    have p2 : ref09_Split N (plus s (a ++ b ++ (be i 8 ++ be r 8)) 172) [32, 36, 36, 32, 32] = some (splR (some [pc (plus s (a ++ b ++ (be i 8 ++ be r 8)) 172) 0 32, pc (plus s (a ++ b ++ (be i 8 ++ be r 8)) 172) 32 36, pc (plus s (a ++ b ++ (be i 8 ++ be r 8)) 172) 68 36, pc (plus s (a ++ b ++ (be i 8 ++ be r 8)) 172) 104 32, pc (plus s (a ++ b ++ (be i 8 ++ be r 8)) 172) 136 32])) := by
      rw [ref_split N (by omega) (by decide) hN, spl5 l5]
    simp (disch := omega) only [dpos, dneg, w64_of, inR_of, room_of, tmod_of, cond_true, cond_false, Bool.and_self, Bool.and_true, Bool.true_and, Bool.and_false, Bool.false_and, Bool.not_true, Bool.not_false, Option.bind_some, List.length_cons, List.length_nil, Nat.zero_add, w1, w2, join2, p1, p2, splR]
    rfl
def kchild (d a b s : List UInt8) : (List UInt8 × List UInt8 × Unit) × Int :=
  if nok a b = true then ((pc (plus d (s ++ a ++ b) 72) 0 36, pc (plus d (s ++ a ++ b) 72) 36 36, ()), 0) else (([], [], ()), 13)
theorem kchild_ok (N : Nat) {d a b s : List UInt8} (hd : d.length ≤ 1000) (hs : s.length ≤ 1000) (ha : a.length ≤ 1000) (hb : b.length ≤ 1000) (hN : 4611686018427387904 ≤ N) :
    keys_Child N d a b s = some (((kchild d a b s).1, (kchild d a b s).2, ()), ()) := by
  unfold keys_Child kchild
  rw [nonces_ok N a b (by omega) (by omega) hN]
  cases nok a b
  · simp only [dpos, dneg, w64_of, inR_of, room_of, tmod_of, cond_true, cond_false, Bool.and_self, Bool.and_true, Bool.true_and, Bool.and_false, Bool.false_and, Bool.not_true, Bool.not_false, Option.bind_some, List.length_cons, List.length_nil, Nat.zero_add, Bool.false_eq_true, if_false]
  · simp only [dpos, dneg, w64_of, inR_of, room_of, tmod_of, cond_true, cond_false, Bool.and_self, Bool.and_true, Bool.true_and, Bool.and_false, Bool.false_and, Bool.not_true, Bool.not_false, Option.bind_some, List.length_cons, List.length_nil, Nat.zero_add, if_true]
    have l4 : (s ++ a ++ b).length ≤ 3000 := by rw [List.length_append, List.length_append]; omega
    have p1 : prf_Plus N d (s ++ a ++ b) 72 = some ((plus d (s ++ a ++ b) 72, 0, ()), ()) := prf_plus N (by omega) (by omega) (by omega) (by omega) hN
    have l5 := plus_len d (s ++ a ++ b) 72
    have p2 : prf_Split N (plus d (s ++ a ++ b) 72) [36, 36] = some (splR (some [pc (plus d (s ++ a ++ b) 72) 0 36, pc (plus d (s ++ a ++ b) 72) 36 36])) := by
      rw [prf_split N (by omega) (by decide) hN, spl2 l5]
    simp (disch := omega) only [dpos, dneg, w64_of, inR_of, room_of, tmod_of, cond_true, cond_false, Bool.and_self, Bool.and_true, Bool.true_and, Bool.and_false, Bool.false_and, Bool.not_true, Bool.not_false, Option.bind_some, List.length_cons, List.length_nil, Nat.zero_add, kjoin3, p1, p2, splR]
    rfl
theorem rchild_ok (N : Nat) {d a b s : List UInt8} (hd : d.length ≤ 1000) (hs : s.length ≤ 1000) (ha : a.length ≤ 1000) (hb : b.length ≤ 1000) (hN : 4611686018427387904 ≤ N) :
    ref16_Child N d a b s = some (((kchild d a b s).1, (kchild d a b s).2, ()), ()) := by
  unfold ref16_Child kchild
  rw [rnonces_ok]
  cases nok a b
  · simp only [dpos, dneg, w64_of, inR_of, room_of, tmod_of, cond_true, cond_false, Bool.and_self, Bool.and_true, Bool.true_and, Bool.and_false, Bool.false_and, Bool.not_true, Bool.not_false, Option.bind_some, List.length_cons, List.length_nil, Nat.zero_add, Bool.false_eq_true, if_false]
  · simp only [dpos, dneg, w64_of, inR_of, room_of, tmod_of, cond_true, cond_false, Bool.and_self, Bool.and_true, Bool.true_and, Bool.and_false, Bool.false_and, Bool.not_true, Bool.not_false, Option.bind_some, List.length_cons, List.length_nil, Nat.zero_add, if_true]
    have l4 : (s ++ a ++ b).length ≤ 3000 := by rw [List.length_append, List.length_append]; omega
    have p1 : ref09_Plus N d (s ++ a ++ b) 72 = some ((plus d (s ++ a ++ b) 72, 0, ()), ()) := ref_plus N (by omega) (by omega) (by omega) (by omega) hN
    have l5 := plus_len d (s ++ a ++ b) 72
    have e1 : cut (plus d (s ++ a ++ b) 72) 0 36 = pc (plus d (s ++ a ++ b) 72) 0 36 := by simp [cut, pc]
    have e2 : cut (plus d (s ++ a ++ b) 72) 36 (plus d (s ++ a ++ b) 72).length = pc (plus d (s ++ a ++ b) 72) 36 36 := by
      rw [l5]; exact cut_at _ 36 36
    simp (disch := omega) only [dpos, dneg, w64_of, inR_of, room_of, tmod_of, cond_true, cond_false, Bool.and_self, Bool.and_true, Bool.true_and, Bool.and_false, Bool.false_and, Bool.not_true, Bool.not_false, Option.bind_some, List.length_cons, List.length_nil, Nat.zero_add, join3, p1, e1, e2]
theorem same16 (N : Nat) {k : List UInt8 × List UInt8 × List UInt8 × List UInt8 × List UInt8 × Unit} (h : k.1.length ≤ 100 ∧ k.2.1.length ≤ 100 ∧ k.2.2.1.length ≤ 100 ∧ k.2.2.2.1.length ≤ 100 ∧ k.2.2.2.2.1.length ≤ 100) (hN : 4611686018427387904 ≤ N) : ref16_Same N k k = some ((true, ()), ()) := by
  obtain ⟨h1, h2, h3, h4, h5⟩ := h
  unfold ref16_Same
  simp (disch := omega) only [dpos, dneg, w64_of, inR_of, room_of, tmod_of, cond_true, cond_false, Bool.and_self, Bool.and_true, Bool.true_and, Bool.and_false, Bool.false_and, Bool.not_true, Bool.not_false, Option.bind_some, List.length_cons, List.length_nil, Nat.zero_add, equal_ok, decide_true]
theorem kderive_len (s a b : List UInt8) (i r : UInt64) : (kderive s a b i r).1.1.length ≤ 100 ∧ (kderive s a b i r).1.2.1.length ≤ 100 ∧ (kderive s a b i r).1.2.2.1.length ≤ 100 ∧ (kderive s a b i r).1.2.2.2.1.length ≤ 100 ∧ (kderive s a b i r).1.2.2.2.2.1.length ≤ 100 := by
  unfold kderive
  split
  · simp [dkeys, pc]; omega
  · simp
theorem kchild_len (d a b s : List UInt8) : (kchild d a b s).1.1.length ≤ 100 ∧ (kchild d a b s).1.2.1.length ≤ 100 := by
  unfold kchild
  split
  · simp [pc]; omega
  · simp
theorem kseed_len (a b s : List UInt8) : (kseed a b s).1.length ≤ 100 := by
  unfold kseed; split
  · simp only [hmac_len]; decide
  · simp
theorem krekey_len (d a b s : List UInt8) : (krekey d a b s).1.length ≤ 100 := by
  unfold krekey; split
  · simp only [hmac_len]; decide
  · simp
theorem nonce_ok (N : Nat) {c : List UInt8 × (Int × Unit)} (hc : COk c) (hN : 4611686018427387904 ≤ N) : ∃ c' out, make_Codes_Nonce N c = some ((), (c', out, ())) ∧ out.length ≤ 300 ∧ COk c' := by
  unfold make_Codes_Nonce
  obtain ⟨v, c1, e1, v0, v1, k1⟩ := next_ok N (n := 12) hc (by omega)
  rw [e1]
  simp only [Option.bind_some]
  by_cases h10 : v = 10
  · obtain ⟨v', c2, e2, w0, w1, k2⟩ := next_ok N (n := 17) k1 (by omega)
    obtain ⟨c3, out, e3, l3, k3⟩ := bytes_ok (N := N) k2 w0 (by omega) (by omega)
    simp (disch := omega) only [dpos, dneg, w64_of, inR_of, room_of, tmod_of, cond_true, cond_false, Bool.and_self, Bool.and_true, Bool.true_and, Bool.and_false, Bool.false_and, Bool.not_true, Bool.not_false, Option.bind_some, List.length_cons, List.length_nil, Nat.zero_add, e2, e3]
    exact ⟨_, _, rfl, by omega, k3⟩
  · by_cases h11 : v = 11
    · obtain ⟨c3, out, e3, l3, k3⟩ := bytes_ok (N := N) (n := 20) k1 (by omega) (by omega) (by omega)
      obtain ⟨v', c2, e2, w0, w1, k2⟩ := next_ok N (n := 3) k3 (by omega)
      simp (disch := omega) only [dpos, dneg, w64_of, inR_of, room_of, tmod_of, cond_true, cond_false, Bool.and_self, Bool.and_true, Bool.true_and, Bool.and_false, Bool.false_and, Bool.not_true, Bool.not_false, Option.bind_some, List.length_cons, List.length_nil, Nat.zero_add, e2, e3, List.length_replicate]
      exact ⟨_, _, rfl, by simp; omega, k2⟩
    · obtain ⟨v', c2, e2, w0, w1, k2⟩ := next_ok N (n := 20) k1 (by omega)
      obtain ⟨c3, out, e3, l3, k3⟩ := bytes_ok (N := N) (n := 16 + v') k2 (by omega) (by omega) (by omega)
      simp (disch := omega) only [dpos, dneg, w64_of, inR_of, room_of, tmod_of, cond_true, cond_false, Bool.and_self, Bool.and_true, Bool.true_and, Bool.and_false, Bool.false_and, Bool.not_true, Bool.not_false, Option.bind_some, List.length_cons, List.length_nil, Nat.zero_add, e2, e3]
      exact ⟨_, _, rfl, by omega, k3⟩
theorem derive_ (codes : List UInt8) (hc : codes.length ≤ 9223372036854775807) (s : List UInt8) (hs : s.length ≤ 9223372036854775807) (d : List UInt8) (hd : d.length ≤ 9223372036854775807) (i r : UInt64) :
    law16_KeysDerive 18446744073709551616 codes s d i r = some ((true, ()), ()) := by
  unfold law16_KeysDerive
  rw [awake16]
  generalize hN0 : 18446744073709551616 = N
  have hN : 4611686018427387904 ≤ N := by omega
  clear hN0
  simp only [dpos, dneg, w64_of, inR_of, room_of, tmod_of, cond_true, cond_false, Bool.and_self, Bool.and_true, Bool.true_and, Bool.and_false, Bool.false_and, Bool.not_true, Bool.not_false, Option.bind_some, List.length_cons, List.length_nil, Nat.zero_add]
  unfold law16_KeysDerive_1
  by_cases c1 : (300 : Int) < (s.length : Int)
  · simp (disch := omega) only [dpos, dneg, w64_of, inR_of, room_of, tmod_of, cond_true, cond_false, Bool.and_self, Bool.and_true, Bool.true_and, Bool.and_false, Bool.false_and, Bool.not_true, Bool.not_false, Option.bind_some, List.length_cons, List.length_nil, Nat.zero_add]
  · by_cases c2 : (300 : Int) < (d.length : Int)
    · simp (disch := omega) only [dpos, dneg, w64_of, inR_of, room_of, tmod_of, cond_true, cond_false, Bool.and_self, Bool.and_true, Bool.true_and, Bool.and_false, Bool.false_and, Bool.not_true, Bool.not_false, Option.bind_some, List.length_cons, List.length_nil, Nat.zero_add]
    · obtain ⟨c0, e0, k0⟩ := new_ok N codes (m := 160) (by omega) (by omega)
      obtain ⟨c1', ni, e1, l1, k1⟩ := nonce_ok N k0 hN
      obtain ⟨c2', nr, e2, l2, k2⟩ := nonce_ok N k1 hN
      have q1 := kseed_len ni nr s
      have q2 := krekey_len d ni nr s
      have q3 := kderive_len d ni nr i r
      have q4 := (kchild_len d ni nr s).1
      have q5 := (kchild_len d ni nr s).2
      simp (disch := omega) only [dpos, dneg, w64_of, inR_of, room_of, tmod_of, cond_true, cond_false, Bool.and_self, Bool.and_true, Bool.true_and, Bool.and_false, Bool.false_and, Bool.not_true, Bool.not_false, Option.bind_some, List.length_cons, List.length_nil, Nat.zero_add, e0, e1, e2, kseed_ok, rseed_ok, equal_ok, decide_true]
      unfold law16_KeysDerive_2
      simp (disch := omega) only [dpos, dneg, w64_of, inR_of, room_of, tmod_of, cond_true, cond_false, Bool.and_self, Bool.and_true, Bool.true_and, Bool.and_false, Bool.false_and, Bool.not_true, Bool.not_false, Option.bind_some, List.length_cons, List.length_nil, Nat.zero_add, krekey_ok, rrekey_ok, equal_ok, decide_true]
      unfold law16_KeysDerive_3
      simp (disch := omega) only [dpos, dneg, w64_of, inR_of, room_of, tmod_of, cond_true, cond_false, Bool.and_self, Bool.and_true, Bool.true_and, Bool.and_false, Bool.false_and, Bool.not_true, Bool.not_false, Option.bind_some, List.length_cons, List.length_nil, Nat.zero_add, kderive_ok, rderive_ok, same16 N q3 hN, decide_true]
      unfold law16_KeysDerive_4
      simp (disch := omega) only [dpos, dneg, w64_of, inR_of, room_of, tmod_of, cond_true, cond_false, Bool.and_self, Bool.and_true, Bool.true_and, Bool.and_false, Bool.false_and, Bool.not_true, Bool.not_false, Option.bind_some, List.length_cons, List.length_nil, Nat.zero_add, kchild_ok, rchild_ok, equal_ok, decide_true]
end
end Go.Proofs.YtlamdneheilahaaDoor.Pl

/- Plain: the law KeysChains. -/
namespace Go.Proofs.YtlamdneheilahaaDoor.Pl
open Go
theorem plus_pre (k s : List UInt8) (n m : Nat) (h : (n + m + 31) / 32 = (n + 31) / 32) : (plus k s (n + m)).take n = plus k s n := by
  unfold plus
  rw [List.take_take, Nat.min_eq_left (by omega), h]
theorem glue {x : List UInt8} (h : x.length = 172) : ((((([] ++ pc x 0 32) ++ pc x 32 36) ++ pc x 68 36) ++ pc x 104 32) ++ pc x 136 32) = x.take 168 := by
  have step : ∀ o n, x.take o ++ pc x o n = x.take (o + n) := fun o n => by
    unfold pc; rw [← List.take_add]
  have e0 : ([] : List UInt8) = x.take 0 := by simp
  rw [e0, step, step, step, step, step]
theorem chain_join (M : Nat) (s ni nr : List UInt8) (e : Int) (all : List UInt8) (f : Int) (both : List UInt8) (a b c d g : List UInt8) (h : a.length + b.length + c.length + d.length + g.length ≤ 1000) :
    law16_KeysChains_3 (M + 6) s ni nr e all f 5 0 both (a, b, c, d, g, ()) [] [a, b, c, d, g] = law16_KeysChains_5 (M + 6) s ni nr e all f both (a, b, c, d, g, ()) ((((([] ++ a) ++ b) ++ c) ++ d) ++ g) := by
  unfold law16_KeysChains_3
  refine (loopK_run (fun i : Nat => ((s, ni, nr, e, all, f, 5, (i : Int), ()), (both, (a, b, c, d, g, ()), (([a, b, c, d, g] : List (List UInt8)).take i).flatten, [a, b, c, d, g], ()))) (n := 5) ?_ (e := ((s, ni, nr, e, all, f, ()), (both, (a, b, c, d, g, ()), [a, b, c, d, g].flatten, ()))) ?_ (by omega)).trans ?_
  · have hlen : ([a, b, c, d, g] : List (List UInt8)).length = 5 := rfl
    have hfl : ([a, b, c, d, g] : List (List UInt8)).flatten.length ≤ 1000 := by simp; omega
    generalize ([a, b, c, d, g] : List (List UInt8)) = l at hlen hfl
    intro i hi
    have e1 : (l.take (i + 1)).flatten = (l.take i).flatten ++ l.getD i [] := by rw [take_snoc l [] (by omega)]; simp
    have h2 : ((l.take (i + 1)).flatten).length ≤ l.flatten.length := by
      have := congrArg (fun x => x.flatten.length) (List.take_append_drop (i + 1) l)
      simp only [List.flatten_append, List.length_append] at this
      omega
    rw [e1, List.length_append] at h2
    show law16_KeysChains_s4 (M + 6) s ni nr e all f _ _ both _ _ l = _
    unfold law16_KeysChains_s4
    simp (disch := omega) only [dpos, dneg, w64_of, inR_of, room_of, tmod_of, cond_true, cond_false, Bool.and_self, Bool.and_true, Bool.true_and, Bool.and_false, Bool.false_and, Bool.not_true, Bool.not_false, Option.bind_some, List.length_cons, List.length_nil, Nat.zero_add, Int.toNat_natCast, Int.natCast_add, Int.natCast_one, e1]
  · show law16_KeysChains_s4 (M + 6) s ni nr e all f _ _ both _ _ _ = _
    unfold law16_KeysChains_s4
    simp (disch := omega) only [dpos, dneg, w64_of, inR_of, room_of, tmod_of, cond_true, cond_false, Bool.and_self, Bool.and_true, Bool.true_and, Bool.and_false, Bool.false_and, Bool.not_true, Bool.not_false, Option.bind_some, List.length_cons, List.length_nil, Nat.zero_add]
    rfl
  · show law16_KeysChains_5 (M + 6) s ni nr e all f both _ _ = _
    congr 1
    simp
theorem chains (codes : List UInt8) (hc : codes.length ≤ 9223372036854775807) (s : List UInt8) (hs : s.length ≤ 9223372036854775807) (i r : UInt64) :
    law16_KeysChains 18446744073709551616 codes s i r = some ((true, ()), ()) := by
  unfold law16_KeysChains
  rw [awake16]
  generalize hN0 : 18446744073709551616 = N
  have hN : 4611686018427387904 ≤ N := by omega
  clear hN0
  simp only [dpos, dneg, w64_of, inR_of, room_of, tmod_of, cond_true, cond_false, Bool.and_self, Bool.and_true, Bool.true_and, Bool.and_false, Bool.false_and, Bool.not_true, Bool.not_false, Option.bind_some, List.length_cons, List.length_nil, Nat.zero_add]
  unfold law16_KeysChains_1
  by_cases c1 : (200 : Int) < (s.length : Int)
  · simp (disch := omega) only [dpos, dneg, w64_of, inR_of, room_of, tmod_of, cond_true, cond_false, Bool.and_self, Bool.and_true, Bool.true_and, Bool.and_false, Bool.false_and, Bool.not_true, Bool.not_false, Option.bind_some, List.length_cons, List.length_nil, Nat.zero_add]
  · by_cases c2 : (s.length : Int) = 0
    · simp (disch := omega) only [dpos, dneg, w64_of, inR_of, room_of, tmod_of, cond_true, cond_false, Bool.and_self, Bool.and_true, Bool.true_and, Bool.and_false, Bool.false_and, Bool.not_true, Bool.not_false, Option.bind_some, List.length_cons, List.length_nil, Nat.zero_add]
    · obtain ⟨c0, e0, k0⟩ := new_ok N codes (m := 160) (by omega) (by omega)
      obtain ⟨v1, c1', e1, a0, a1, k1⟩ := next_ok N (n := 20) k0 (by omega)
      obtain ⟨c2', ni, e2, l2, k2⟩ := bytes_ok (N := N) (n := 16 + v1) k1 (by omega) (by omega) (by omega)
      obtain ⟨v3, c3', e3, b0, b1, k3⟩ := next_ok N (n := 20) k2 (by omega)
      obtain ⟨c4', nr, e4, l4, k4⟩ := bytes_ok (N := N) (n := 16 + v3) k3 (by omega) (by omega) (by omega)
      have hnok : nok ni nr = true := by unfold nok; simp (disch := omega) only [dpos, Bool.and_self]
      have hks : kseed ni nr s = (hmac (ni ++ nr) s, 0) := by unfold kseed; rw [if_pos ⟨hnok, by omega⟩]
      have lb : (ni ++ nr).length ≤ 80 := by rw [List.length_append]; omega
      have lh := hmac_len (ni ++ nr) s
      simp (disch := omega) only [dpos, dneg, w64_of, inR_of, room_of, tmod_of, cond_true, cond_false, Bool.and_self, Bool.and_true, Bool.true_and, Bool.and_false, Bool.false_and, Bool.not_true, Bool.not_false, Option.bind_some, List.length_cons, List.length_nil, Nat.zero_add, e0, e1, e2, e3, e4, kseed_ok, hks, prf_hmac, equal_ok, decide_true]
      unfold law16_KeysChains_2
      have hkd : kderive (hmac (ni ++ nr) s) ni nr i r = (dkeys (hmac (ni ++ nr) s) ni nr i r, 0) := by unfold kderive; rw [if_pos hnok]
      have l1 := be_len i 8
      have l2' := be_len r 8
      have l3 : (ni ++ nr ++ be i 8).length ≤ 100 := by rw [List.length_append]; omega
      have l4' : (ni ++ nr ++ be i 8 ++ be r 8).length ≤ 120 := by rw [List.length_append]; omega
      have w1 : ref01_Put N (ni ++ nr) i 8 = some ((), (ni ++ nr ++ be i 8, ())) := by rw [ref_put N (by omega) (by omega) (by omega) (by omega)]; rfl
      have w2 : ref01_Put N (ni ++ nr ++ be i 8) r 8 = some ((), (ni ++ nr ++ be i 8 ++ be r 8, ())) := by rw [ref_put N (by omega) (by omega) (by omega) (by omega)]; rfl
      have p1 : prf_Plus N (hmac (ni ++ nr) s) (ni ++ nr ++ be i 8 ++ be r 8) 168 = some ((plus (hmac (ni ++ nr) s) (ni ++ nr ++ be i 8 ++ be r 8) 168, 0, ()), ()) := prf_plus N (by omega) (by omega) (by omega) (by omega) hN
      simp (disch := omega) only [dpos, dneg, w64_of, inR_of, room_of, tmod_of, cond_true, cond_false, Bool.and_self, Bool.and_true, Bool.true_and, Bool.and_false, Bool.false_and, Bool.not_true, Bool.not_false, Option.bind_some, List.length_cons, List.length_nil, Nat.zero_add, kderive_ok, hkd, w1, w2, p1]
      obtain ⟨M, hM⟩ := Nat.exists_eq_add_of_le' (show 6 ≤ N by omega)
      have ha : ni ++ nr ++ (be i 8 ++ be r 8) = ni ++ nr ++ be i 8 ++ be r 8 := by simp
      have hx := plus_len (hmac (ni ++ nr) s) (ni ++ nr ++ be i 8 ++ be r 8) 172
      have hpre := plus_pre (hmac (ni ++ nr) s) (ni ++ nr ++ be i 8 ++ be r 8) 168 4 (by decide)
      unfold dkeys
      rw [ha]
      generalize hy : hmac (ni ++ nr) s = y at *
      generalize ni ++ nr ++ be i 8 ++ be r 8 = z at *
      generalize plus y z 172 = x at *
      have q1 := pc_len (x := x) (o := 0) (n := 32) (by omega)
      have q2 := pc_len (x := x) (o := 32) (n := 36) (by omega)
      have q3 := pc_len (x := x) (o := 68) (n := 36) (by omega)
      have q4 := pc_len (x := x) (o := 104) (n := 32) (by omega)
      have q5 := pc_len (x := x) (o := 136) (n := 32) (by omega)
      have hj := chain_join M s ni nr 0 (plus y z 168) 0 (ni ++ nr) (pc x 0 32) (pc x 32 36) (pc x 68 36) (pc x 104 32) (pc x 136 32) (by omega)
      rw [← hM, glue hx] at hj
      have hpre' : x.take 168 = plus y z 168 := hpre
      rw [hpre'] at hj
      have lp := plus_len y z 168
      refine Eq.trans ?_ (hj.trans ?_)
      · rfl
      · unfold law16_KeysChains_5
        simp (disch := omega) only [dpos, dneg, w64_of, inR_of, room_of, tmod_of, cond_true, cond_false, Bool.and_self, Bool.and_true, Bool.true_and, Bool.and_false, Bool.false_and, Bool.not_true, Bool.not_false, Option.bind_some, List.length_cons, List.length_nil, Nat.zero_add, equal_ok, decide_true]
        unfold law16_KeysChains_6
        have hkr : krekey (pc x 0 32) ni nr s = (hmac (pc x 0 32) (s ++ ni ++ nr), 0) := by unfold krekey; rw [if_pos ⟨hnok, by omega⟩]
        have hs3 : s ++ ni ++ nr = s ++ (ni ++ nr) := by simp
        have l9 : (s ++ (ni ++ nr)).length ≤ 300 := by rw [List.length_append]; omega
        have l8 := hmac_len (pc x 0 32) (s ++ (ni ++ nr))
        simp (disch := omega) only [dpos, dneg, w64_of, inR_of, room_of, tmod_of, cond_true, cond_false, Bool.and_self, Bool.and_true, Bool.true_and, Bool.and_false, Bool.false_and, Bool.not_true, Bool.not_false, Option.bind_some, List.length_cons, List.length_nil, Nat.zero_add, krekey_ok, hkr, hs3, prf_hmac, equal_ok, decide_true]
end Go.Proofs.YtlamdneheilahaaDoor.Pl

/- Plain: products and powers in the small group (group.Mul, group.Power). -/
namespace Go.Proofs.YtlamdneheilahaaDoor.Pl
open Go
noncomputable section
theorem u64add {x y : UInt64} (h : x.toNat + y.toNat < 18446744073709551616) : (x + y).toNat = x.toNat + y.toNat := by
  rw [UInt64.toNat_add]; exact Nat.mod_eq_of_lt h
theorem u64mul {x y : UInt64} (h : x.toNat * y.toNat < 18446744073709551616) : (x * y).toNat = x.toNat * y.toNat := by
  rw [UInt64.toNat_mul]; exact Nat.mod_eq_of_lt h
theorem u64sub {x y : UInt64} (h : y.toNat ≤ x.toNat) : (x - y).toNat = x.toNat - y.toNat := UInt64.toNat_sub_of_le _ _ (UInt64.le_iff_toNat_le.2 h)
theorem u64shr (x : UInt64) (n : Nat) : (shr64 x n).toNat = x.toNat / 2 ^ n := by
  show (x.toBitVec >>> n).toNat = _
  rw [BitVec.toNat_ushiftRight, Nat.shiftRight_eq_div_pow]; rfl
theorem u64lo (x : UInt64) : (x &&& 4294967295).toNat = x.toNat % 4294967296 := by
  rw [UInt64.toNat_and]; exact Nat.and_two_pow_sub_one_eq_mod _ 32
theorem mul64_ok (N : Nat) (x y : UInt64) : ∃ h l, math_bits_Mul64 N x y = some ((h, l, ()), ()) ∧ h.toNat = x.toNat * y.toNat / 18446744073709551616 ∧ l.toNat = x.toNat * y.toNat % 18446744073709551616 := by
  have hx := x.toNat_lt; have hy := y.toNat_lt
  obtain ⟨bd, bt, bw, hhi⟩ := Lib.mul64_hi x.toNat y.toNat hx hy
  have ba := Lib.half_mul_le (a := x.toNat / 4294967296) (b := y.toNat / 4294967296) (by omega) (by omega)
  have bb := Lib.half_mul_le (a := x.toNat / 4294967296) (b := y.toNat % 4294967296) (by omega) (by omega)
  have bc := Lib.half_mul_le (a := x.toNat % 4294967296) (b := y.toNat / 4294967296) (by omega) (by omega)
  have be := Lib.half_mul_le (a := x.toNat % 4294967296) (b := y.toNat % 4294967296) (by omega) (by omega)
  have s32 : ∀ z : UInt64, (shr64 z 32).toNat = z.toNat / 4294967296 := fun z => u64shr z 32
  have m1 : (shr64 x 32 * shr64 y 32).toNat = x.toNat / 4294967296 * (y.toNat / 4294967296) := by rw [u64mul (by rw [s32, s32]; omega), s32, s32]
  have m2 : (shr64 x 32 * (y &&& 4294967295)).toNat = x.toNat / 4294967296 * (y.toNat % 4294967296) := by rw [u64mul (by rw [s32, u64lo]; omega), s32, u64lo]
  have m3 : ((x &&& 4294967295) * (y &&& 4294967295)).toNat = x.toNat % 4294967296 * (y.toNat % 4294967296) := by rw [u64mul (by rw [u64lo, u64lo]; omega), u64lo, u64lo]
  have m4 : ((x &&& 4294967295) * shr64 y 32).toNat = x.toNat % 4294967296 * (y.toNat / 4294967296) := by rw [u64mul (by rw [u64lo, s32]; omega), u64lo, s32]
  have t1 : (shr64 x 32 * (y &&& 4294967295) + shr64 ((x &&& 4294967295) * (y &&& 4294967295)) 32).toNat = x.toNat / 4294967296 * (y.toNat % 4294967296) + x.toNat % 4294967296 * (y.toNat % 4294967296) / 4294967296 := by
    rw [u64add (by rw [s32, m2, m3]; omega), s32, m2, m3]
  have t2 : ((shr64 x 32 * (y &&& 4294967295) + shr64 ((x &&& 4294967295) * (y &&& 4294967295)) 32 &&& 4294967295) + (x &&& 4294967295) * shr64 y 32).toNat = (x.toNat / 4294967296 * (y.toNat % 4294967296) + x.toNat % 4294967296 * (y.toNat % 4294967296) / 4294967296) % 4294967296 + x.toNat % 4294967296 * (y.toNat / 4294967296) := by
    rw [u64add (by rw [u64lo, t1, m4]; omega), u64lo, t1, m4]
  refine ⟨_, _, rfl, ?_, UInt64.toNat_mul ..⟩
  rw [← hhi]
  rw [u64add (by rw [u64add (by rw [m1, s32, t1]; omega), m1, s32, t1, s32, t2]; omega), u64add (by rw [m1, s32, t1]; omega), m1, s32, t1, s32, t2]
theorem c_0 : (4294967295 : UInt64).toNat = 4294967295 := rfl
theorem c_1 : (4294967296 : UInt64).toNat = 4294967296 := rfl
theorem c_2 : (4294925036 : UInt64).toNat = 4294925036 := rfl
theorem c_3 : (1 : UInt64).toNat = 1 := rfl
theorem c_4 : (18446744073709509356 : UInt64).toNat = 18446744073709509356 := rfl
theorem k_z {z : UInt64} (h : z.toNat ≤ 4294967295) : ∃ z1, z + 4294967295 = z1 ∧ z1.toNat = z.toNat + 4294967295 := ⟨_, rfl, by rw [u64add (by rw [c_0]; omega), c_0]⟩
theorem k_x {x : UInt64} (h : 1 ≤ x.toNat) : ∃ x1, x - 1 = x1 ∧ x1.toNat = x.toNat - 1 := ⟨_, rfl, by rw [u64sub (by rw [c_3]; omega), c_3]⟩
theorem k_m {x : UInt64} (h : x.toNat ≤ 4294967298) : ∃ m, x * 4294925036 = m ∧ m.toNat = x.toNat * 4294925036 := ⟨_, rfl, by rw [u64mul (by rw [c_2]; omega), c_2]⟩
theorem k_s {z : UInt64} (h : z.toNat ≤ 4294967295) : ∃ m, 4294967296 * z = m ∧ m.toNat = 4294967296 * z.toNat := ⟨_, rfl, by rw [u64mul (by rw [c_1]; omega), c_1]⟩
theorem k_a {m u : UInt64} (h : m.toNat + u.toNat < 18446744073709551616) : ∃ a, m + u = a ∧ a.toNat = m.toNat + u.toNat := ⟨_, rfl, u64add h⟩
theorem k_le {z : UInt64} : (4294967296 : UInt64) ≤ z ↔ 4294967296 ≤ z.toNat := by rw [UInt64.le_iff_toNat_le, c_1]
theorem div_10 (N : Nat) {u0 q1 V q0 : UInt64} (h1 : q0.toNat * 18446744073709509356 ≤ V.toNat * 4294967296 + u0.toNat) (h2 : V.toNat * 4294967296 + u0.toNat < (q0.toNat + 1) * 18446744073709509356) :
    ∃ r, math_bits_Div64_10 N 18446744073709509356 2 u0 q1 V q0 = some r ∧ r.1.2.1.toNat = (V.toNat * 4294967296 + u0.toNat - q0.toNat * 18446744073709509356) / 4 := by
  refine ⟨_, rfl, ?_⟩
  show (shr64 (V * 4294967296 + u0 - q0 * 18446744073709509356) (2 : UInt64).toNat).toNat = _
  rw [u64shr]
  show _ / 4 = _
  congr 1
  rw [UInt64.toNat_sub, UInt64.toNat_add, UInt64.toNat_mul, UInt64.toNat_mul, c_1, c_4]
  have := u0.toNat_lt; have := q0.toNat_lt; have := V.toNat_lt
  omega
theorem ar1 {x1 z V u : Nat} (i1 : (x1 + 1) * 4294967295 + z = V) (i2 : z ≤ 4294967295) (hx : x1 + 1 ≤ 4294967298) (hb : 4294967296 ≤ z + 4294967295) : x1 * 18446744073709509356 ≤ V * 4294967296 + u := by
  subst i1; omega
theorem ar2 {x z V u : Nat} (i1 : x * 4294967295 + z = V) (g : ¬ 4294967296 * z + u < x * 4294925036) : x * 18446744073709509356 ≤ V * 4294967296 + u := by
  subst i1; omega
theorem ar3 {x1 z V u : Nat} (i1 : (x1 + 1) * 4294967295 + z = V) (g : 4294967296 ≤ x1 + 1 ∨ 4294967296 * z + u < (x1 + 1) * 4294925036) (hu : u ≤ 4294967295) (hV : V < 18446744073709509356): V * 4294967296 + u < (x1 + 1) * 18446744073709509356 := by
  rcases g with g | g
  · clear i1; omega
  · subst i1; clear hu hV; omega
theorem ar4 {x1 z z1 V : Nat} (i1 : (x1 + 1) * 4294967295 + z = V) (h : z1 = z + 4294967295) : x1 * 4294967295 + z1 = V := by
  subst i1 h; omega
theorem ar5 {z z1 : Nat} (i2 : z ≤ 4294967295) (h : z1 = z + 4294967295) (hb : ¬ 4294967296 ≤ z1) : z1 ≤ 4294967295 := by subst h; omega
set_option maxRecDepth 20000 in
/-- The second digit. -/
theorem div_7 (N : Nat) (hN : 4611686018427387904 ≤ N) {u0 q1 V : UInt64} (hV : V.toNat < 18446744073709509356) (hu : u0.toNat ≤ 4294967295) :
    ∃ r, math_bits_Div64_7 N 18446744073709509356 2 4294967295 4294925036 u0 q1 (V - V / 4294967295 * 4294967295) V (V / 4294967295) = some r ∧ r.1.2.1.toNat = (V.toNat * 4294967296 + u0.toNat) % 18446744073709509356 / 4 := by
  unfold math_bits_Div64_7
  have hq0 : (V / 4294967295).toNat = V.toNat / 4294967295 := by rw [UInt64.toNat_div, c_0]
  have hm0 : (V / 4294967295 * 4294967295).toNat = V.toNat / 4294967295 * 4294967295 := by rw [u64mul (by rw [hq0, c_0]; omega), hq0, c_0]
  have hr0 : (V - V / 4294967295 * 4294967295).toNat = V.toNat - V.toNat / 4294967295 * 4294967295 := by rw [u64sub (by rw [hm0]; omega), hm0]
  have fin : ∀ q0 : UInt64, q0.toNat * 18446744073709509356 ≤ V.toNat * 4294967296 + u0.toNat → V.toNat * 4294967296 + u0.toNat < (q0.toNat + 1) * 18446744073709509356 → ∃ r, math_bits_Div64_10 N 18446744073709509356 2 u0 q1 V q0 = some r ∧ r.1.2.1.toNat = (V.toNat * 4294967296 + u0.toNat) % 18446744073709509356 / 4 := by
    intro q0 a b
    obtain ⟨r, e, hr⟩ := div_10 N (q1 := q1) a b
    refine ⟨r, e, ?_⟩
    rw [hr]
    congr 1
    omega
  clear hm0
  generalize V - V / 4294967295 * 4294967295 = Z0 at *
  generalize V / 4294967295 = X0 at *
  refine loopK_of (I := fun y => ∃ x z : UInt64, y = ((18446744073709509356, 2, 4294967295, 4294925036, u0, q1, z, V, x, ()), ()) ∧ x.toNat * 4294967295 + z.toNat = V.toNat ∧ z.toNat ≤ 4294967295 ∧ V.toNat * 4294967296 + u0.toNat < (x.toNat + 1) * 18446744073709509356)
    (μ := fun y => (y.1.2.2.2.2.2.2.2.2.1 : UInt64).toNat) (T := fun (r : math_bits_Div64_R) => r.1.2.1.toNat = (V.toNat * 4294967296 + u0.toNat) % 18446744073709509356 / 4) ?_ ⟨X0, Z0, rfl, by rw [hq0, hr0]; omega, by rw [hr0]; omega, by rw [hq0]; omega⟩ (by simp only [hq0]; omega)
  rintro y ⟨x, z, rfl, i1, i2, i3⟩
  show ∃ o, math_bits_Div64_s8 N 18446744073709509356 2 4294967295 4294925036 u0 q1 z V x = some o ∧ _
  unfold math_bits_Div64_s8 math_bits_Div64_9
  have hx : x.toNat ≤ 4294967298 := by omega
  obtain ⟨m1, f1, hm1⟩ := k_s i2
  obtain ⟨m2, f2, hm2⟩ := k_a (m := m1) (u := u0) (by omega)
  obtain ⟨m3, f3, hm3⟩ := k_m (show x.toNat ≤ 4294967298 by omega)
  obtain ⟨z1, f4, hz1⟩ := k_z i2
  rw [f1, f2, f3, f4]
  have d1 := @k_le x
  have d2 : m2 < m3 ↔ m2.toNat < m3.toNat := UInt64.lt_iff_toNat_lt
  have d3 := @k_le z1
  have body : (4294967296 ≤ x.toNat ∨ m2.toNat < m3.toNat) → ∃ o, (bif decide ((4294967296 : UInt64) ≤ z1) then some (Lo.br ((18446744073709509356, 2, u0, q1, V, x - 1, ()), ())) else some (Lo.go ((18446744073709509356, 2, 4294967295, 4294925036, u0, q1, z1, V, x - 1, ()), ())) : Option (Lo ((UInt64 × UInt64 × UInt64 × UInt64 × UInt64 × UInt64 × UInt64 × UInt64 × UInt64 × Unit) × (Unit)) ((UInt64 × UInt64 × UInt64 × UInt64 × UInt64 × UInt64 × Unit) × (Unit)) math_bits_Div64_R)) = some o ∧ match o with
      | .go x' => (∃ x z : UInt64, x' = ((18446744073709509356, 2, 4294967295, 4294925036, u0, q1, z, V, x, ()), ()) ∧ x.toNat * 4294967295 + z.toNat = V.toNat ∧ z.toNat ≤ 4294967295 ∧ V.toNat * 4294967296 + u0.toNat < (x.toNat + 1) * 18446744073709509356) ∧ x'.1.2.2.2.2.2.2.2.2.1.toNat < x.toNat
      | .br e => ∃ r, math_bits_Div64_10 N e.1.1 e.1.2.1 e.1.2.2.1 e.1.2.2.2.1 e.1.2.2.2.2.1 e.1.2.2.2.2.2.1 = some r ∧ r.1.2.1.toNat = (V.toNat * 4294967296 + u0.toNat) % 18446744073709509356 / 4
      | .rt r => r.1.2.1.toNat = (V.toNat * 4294967296 + u0.toNat) % 18446744073709509356 / 4 := by
    intro hg
    obtain ⟨x1, f5, hx1⟩ := k_x (x := x) (by omega)
    rw [f5]
    have y1 : (x1.toNat + 1) * 4294967295 + z.toNat = V.toNat := by rw [hx1, Nat.sub_add_cancel (by omega)]; exact i1
    have y2 : x1.toNat + 1 ≤ 4294967298 := by omega
    have y3 : 4294967296 ≤ x1.toNat + 1 ∨ 4294967296 * z.toNat + u0.toNat < (x1.toNat + 1) * 4294925036 := by
      rw [hx1, Nat.sub_add_cancel (by omega)]
      rw [hm2, hm1, hm3] at hg
      exact hg
    have y4 : V.toNat * 4294967296 + u0.toNat < (x1.toNat + 1) * 18446744073709509356 := ar3 y1 y3 hu hV
    by_cases hb : (4294967296 : UInt64) ≤ z1
    · rw [dpos hb, cond_true]
      have hb' := d3.1 hb
      exact ⟨_, rfl, fin x1 (ar1 y1 i2 y2 (by omega)) y4⟩
    · rw [dneg hb, cond_false]
      have hb' : ¬ 4294967296 ≤ z1.toNat := fun e => hb (d3.2 e)
      exact ⟨_, rfl, ⟨x1, z1, rfl, ar4 y1 hz1, ar5 i2 hz1 hb', y4⟩, by show x1.toNat < x.toNat; omega⟩
  by_cases g1 : (4294967296 : UInt64) ≤ x
  · rw [dpos g1]
    simp only [cond_true, cond_false]
    obtain ⟨o, ho, h⟩ := body (.inl (d1.1 g1))
    exact ⟨o, ho, by cases o <;> exact h⟩
  · rw [dneg g1]
    by_cases g2 : m2 < m3
    · rw [dpos g2]
      simp only [cond_true, cond_false]
      obtain ⟨o, ho, h⟩ := body (.inr (d2.1 g2))
      exact ⟨o, ho, by cases o <;> exact h⟩
    · rw [dneg g2]
      have g1' : ¬ 4294967296 ≤ x.toNat := fun e => g1 (d1.2 e)
      have g2' : ¬ m2.toNat < m3.toNat := fun e => g2 (d2.2 e)
      exact ⟨_, rfl, fin x (ar2 i1 (by rw [hm2, hm1, hm3] at g2'; exact g2')) i3⟩
set_option maxRecDepth 20000 in
/-- The first digit, and all. -/
theorem div_3 (N : Nat) (hN : 4611686018427387904 ≤ N) {U u1 u0 : UInt64} (hU : U.toNat < 4611686018427387904) (hu1 : u1.toNat ≤ 4294967295) (hu0 : u0.toNat ≤ 4294967295) :
    ∃ r, math_bits_Div64_3 N 18446744073709509356 2 4294967295 4294925036 U u1 u0 (U / 4294967295) (U - U / 4294967295 * 4294967295) = some r ∧ r.1.2.1.toNat = ((U.toNat * 4294967296 + u1.toNat) % 18446744073709509356 * 4294967296 + u0.toNat) % 18446744073709509356 / 4 := by
  unfold math_bits_Div64_3
  have hq0 : (U / 4294967295).toNat = U.toNat / 4294967295 := by rw [UInt64.toNat_div, c_0]
  have hm0 : (U / 4294967295 * 4294967295).toNat = U.toNat / 4294967295 * 4294967295 := by rw [u64mul (by rw [hq0, c_0]; omega), hq0, c_0]
  have hr0 : (U - U / 4294967295 * 4294967295).toNat = U.toNat - U.toNat / 4294967295 * 4294967295 := by rw [u64sub (by rw [hm0]; omega), hm0]
  have fin : ∀ q : UInt64, q.toNat * 18446744073709509356 ≤ U.toNat * 4294967296 + u1.toNat → U.toNat * 4294967296 + u1.toNat < (q.toNat + 1) * 18446744073709509356 → ∃ r, math_bits_Div64_6 N 18446744073709509356 2 4294967295 4294925036 U u1 u0 q = some r ∧ r.1.2.1.toNat = ((U.toNat * 4294967296 + u1.toNat) % 18446744073709509356 * 4294967296 + u0.toNat) % 18446744073709509356 / 4 := by
    intro q a b
    unfold math_bits_Div64_6
    have hnz : ¬ (4294967295 : UInt64) = 0 := by decide
    have hV : (U * 4294967296 + u1 - q * 18446744073709509356).toNat = (U.toNat * 4294967296 + u1.toNat) % 18446744073709509356 := by
      rw [UInt64.toNat_sub, UInt64.toNat_add, UInt64.toNat_mul, UInt64.toNat_mul, c_1, c_4]
      have := u1.toNat_lt; have := q.toNat_lt
      omega
    rw [dneg hnz]
    obtain ⟨r, e, hr⟩ := div_7 N hN (u0 := u0) (q1 := q) (V := U * 4294967296 + u1 - q * 18446744073709509356) (by rw [hV]; exact Nat.mod_lt _ (by decide)) hu0
    exact ⟨r, e, by rw [hr, hV]⟩
  clear hm0
  generalize U - U / 4294967295 * 4294967295 = Z0 at *
  generalize U / 4294967295 = X0 at *
  refine loopK_of (I := fun y => ∃ x z : UInt64, y = ((18446744073709509356, 2, 4294967295, 4294925036, U, u1, u0, x, z, ()), ()) ∧ x.toNat * 4294967295 + z.toNat = U.toNat ∧ z.toNat ≤ 4294967295 ∧ U.toNat * 4294967296 + u1.toNat < (x.toNat + 1) * 18446744073709509356)
    (μ := fun y => y.1.2.2.2.2.2.2.2.1.toNat) (T := fun (r : math_bits_Div64_R) => r.1.2.1.toNat = ((U.toNat * 4294967296 + u1.toNat) % 18446744073709509356 * 4294967296 + u0.toNat) % 18446744073709509356 / 4) ?_ ⟨X0, Z0, rfl, by rw [hq0, hr0]; omega, by rw [hr0]; omega, by rw [hq0]; omega⟩ (by simp only [hq0]; omega)
  rintro y ⟨x, z, rfl, i1, i2, i3⟩
  show ∃ o, math_bits_Div64_s4 N 18446744073709509356 2 4294967295 4294925036 U u1 u0 x z = some o ∧ _
  unfold math_bits_Div64_s4 math_bits_Div64_5
  have hx : x.toNat ≤ 2147483648 := by omega
  obtain ⟨m1, f1, hm1⟩ := k_s i2
  obtain ⟨m2, f2, hm2⟩ := k_a (m := m1) (u := u1) (by omega)
  obtain ⟨m3, f3, hm3⟩ := k_m (show x.toNat ≤ 4294967298 by omega)
  obtain ⟨z1, f4, hz1⟩ := k_z i2
  rw [f1, f2, f3, f4]
  have d1 : ¬ (4294967296 : UInt64) ≤ x := fun e => by have := k_le.1 e; omega
  have d2 : m2 < m3 ↔ m2.toNat < m3.toNat := UInt64.lt_iff_toNat_lt
  have d3 := @k_le z1
  rw [dneg d1]
  by_cases g2 : m2 < m3
  · have hg := d2.1 g2
    obtain ⟨x1, f5, hx1⟩ := k_x (x := x) (by omega)
    rw [f5]
    have y1 : (x1.toNat + 1) * 4294967295 + z.toNat = U.toNat := by rw [hx1, Nat.sub_add_cancel (by omega)]; exact i1
    have y2 : x1.toNat + 1 ≤ 4294967298 := by omega
    have y3 : 4294967296 ≤ x1.toNat + 1 ∨ 4294967296 * z.toNat + u1.toNat < (x1.toNat + 1) * 4294925036 := by
      rw [hx1, Nat.sub_add_cancel (by omega)]
      rw [hm2, hm1, hm3] at hg
      exact Or.inr hg
    have y4 : U.toNat * 4294967296 + u1.toNat < (x1.toNat + 1) * 18446744073709509356 := ar3 y1 y3 hu1 (by omega)
    rw [dpos g2]
    by_cases hb : (4294967296 : UInt64) ≤ z1
    · have hb' := d3.1 hb
      simp only [dpos hb, cond_true, cond_false]
      exact ⟨_, rfl, fin x1 (ar1 y1 i2 y2 (by omega)) y4⟩
    · have hb' : ¬ 4294967296 ≤ z1.toNat := fun e => hb (d3.2 e)
      simp only [dneg hb, cond_true, cond_false]
      exact ⟨_, rfl, ⟨x1, z1, rfl, ar4 y1 hz1, ar5 i2 hz1 hb', y4⟩, by show x1.toNat < x.toNat; omega⟩
  · have g2' : ¬ m2.toNat < m3.toNat := fun e => g2 (d2.2 e)
    rw [dneg g2]
    exact ⟨_, rfl, fin x (ar2 i1 (by rw [hm2, hm1, hm3] at g2'; exact g2')) i3⟩
theorem lz_ok (N : Nat) : math_bits_LeadingZeros64 N 4611686018427377339 = some ((2, ()), ()) := by kernel_rfl
theorem div64_ok (N : Nat) (hN : 4611686018427387904 ≤ N) {hi lo : UInt64} (h : hi.toNat < 1152921504606846976) : ∃ r, math_bits_Div64 N hi lo 4611686018427377339 = some r ∧ r.1.2.1.toNat = (hi.toNat * 18446744073709551616 + lo.toNat) % 4611686018427377339 := by
  have hp : (4611686018427377339 : UInt64).toNat = 4611686018427377339 := rfl
  unfold math_bits_Div64 math_bits_Div64_1 math_bits_Div64_2
  have n0 : ¬ (4611686018427377339 : UInt64) = 0 := by decide
  have n1 : ¬ (4611686018427377339 : UInt64) ≤ hi := by rw [UInt64.le_iff_toNat_le, hp]; omega
  simp only [dneg n0, dneg n1, cond_false, Bool.not_false, cond_true]
  by_cases hz : hi = 0
  · subst hz
    rw [dpos rfl, cond_true]
    refine ⟨_, rfl, ?_⟩
    show (lo % 4611686018427377339).toNat = _
    rw [UInt64.toNat_mod, hp]
    have : (0 : UInt64).toNat = 0 := rfl
    rw [this, Nat.zero_mul, Nat.zero_add]
  · rw [dneg hz, lz_ok]
    simp only [cond_false, Option.bind_some]
    have e1 : (iu64 2).toNat = 2 := rfl
    have e2 : ((64 : UInt64) - iu64 2).toNat = 62 := rfl
    have e3 : iu64 2 = 2 := rfl
    have y1 : shl64 4611686018427377339 2 = 18446744073709509356 := rfl
    have y2 : shr64 18446744073709509356 32 = 4294967295 := rfl
    have y3 : (18446744073709509356 : UInt64) &&& 4294967295 = 4294925036 := rfl
    have n2 : ¬ (4294967295 : UInt64) = 0 := by decide
    rw [e1, e2, e3, y1, y2, y3]
    simp only [dneg n2, Bool.not_false, cond_true]
    have hlo := lo.toNat_lt
    have hsl : (shl64 hi 2).toNat = hi.toNat * 4 := by
      show (hi.toBitVec <<< 2).toNat = _
      rw [BitVec.toNat_shiftLeft, Nat.shiftLeft_eq]
      have : hi.toBitVec.toNat = hi.toNat := rfl
      rw [this]
      exact Nat.mod_eq_of_lt (by omega)
    have hsr : (shr64 lo 62).toNat = lo.toNat / 4611686018427387904 := u64shr lo 62
    have hU : (shl64 hi 2 ||| shr64 lo 62).toNat = hi.toNat * 4 + lo.toNat / 4611686018427387904 := by
      rw [UInt64.toNat_or, hsl, hsr, show hi.toNat * 4 = hi.toNat <<< 2 by rw [Nat.shiftLeft_eq], ← Nat.shiftLeft_add_eq_or_of_lt (show lo.toNat / 4611686018427387904 < 2 ^ 2 by omega)]
    have hL : (shl64 lo 2).toNat = lo.toNat * 4 % 18446744073709551616 := by
      show (lo.toBitVec <<< 2).toNat = _
      rw [BitVec.toNat_shiftLeft, Nat.shiftLeft_eq]; rfl
    have hu1 : (shr64 (shl64 lo 2) 32).toNat = lo.toNat * 4 % 18446744073709551616 / 4294967296 := by rw [u64shr, hL]
    have hu0 : (shl64 lo 2 &&& 4294967295).toNat = lo.toNat * 4 % 18446744073709551616 % 4294967296 := by rw [u64lo, hL]
    obtain ⟨r, e, hr⟩ := div_3 N hN (U := shl64 hi 2 ||| shr64 lo 62) (u1 := shr64 (shl64 lo 2) 32) (u0 := shl64 lo 2 &&& 4294967295) (by rw [hU]; omega) (by rw [hu1]; omega) (by rw [hu0]; omega)
    refine ⟨r, e, ?_⟩
    rw [hr, hU, hu1, hu0]
    generalize hi.toNat = H at *
    generalize lo.toNat = L at *
    omega
theorem gmul_ok (N : Nat) (hN : 4611686018427387904 ≤ N) (a b : UInt64) : ∃ r, group_Mul N a b = some ((r, ()), ()) ∧ r.toNat = a.toNat * b.toNat % 4611686018427377339 := by
  have hp : (4611686018427377339 : UInt64).toNat = 4611686018427377339 := rfl
  obtain ⟨h, l, e1, h1, h2⟩ := mul64_ok N (a % 4611686018427377339) (b % 4611686018427377339)
  rw [UInt64.toNat_mod, UInt64.toNat_mod, hp] at h1 h2
  have hb := Nat.mul_le_mul (show a.toNat % 4611686018427377339 ≤ 4611686018427377338 by omega) (show b.toNat % 4611686018427377339 ≤ 4611686018427377338 by omega)
  obtain ⟨r, e2, h3⟩ := div64_ok N hN (hi := h) (lo := l) (by rw [h1]; omega)
  unfold group_Mul
  rw [e1, Option.bind_some]
  simp only [e2, Option.bind_some]
  refine ⟨_, rfl, ?_⟩
  rw [h3, h1, h2, Nat.div_add_mod', ← Nat.mul_mod]
theorem gpow_ok (N : Nat) (hN : 4611686018427387904 ≤ N) (a e : UInt64) : ∃ r, group_Power N a e = some ((r, ()), ()) ∧ r.toNat = a.toNat ^ e.toNat % 4611686018427377339 := by
  unfold group_Power group_Power_1
  have := loopK_of (N := N) (step := fun y => group_Power_s2 N y.1.1 y.1.2.1 y.1.2.2.1) (J := fun (e : ((UInt64 × Unit) × (Unit))) => group_Power_3 N e.1.1)
    (I := fun y => y.1.2.2.1.toNat * y.1.1.toNat ^ y.1.2.1.toNat % 4611686018427377339 = a.toNat ^ e.toNat % 4611686018427377339 ∧ y.1.2.2.1.toNat < 4611686018427377339 ∧ y.1.2.1.toNat < 2 ^ 64 ) (μ := fun y => y.1.2.1.toNat.log2 + (if y.1.2.1.toNat = 0 then 0 else 1)) (T := fun r => ∃ v, r = ((v, ()), ()) ∧ v.toNat = a.toNat ^ e.toNat % 4611686018427377339) ?_
    (x := ((a, e, 1, ()), ())) ⟨by show 1 * _ % _ = _; rw [Nat.one_mul], by show (1 : UInt64).toNat < _; decide, e.toNat_lt⟩ (by
      simp only
      have : e.toNat.log2 < 64 := by
        by_cases h : e.toNat = 0
        · rw [h]; decide
        · exact (Nat.log2_lt h).2 e.toNat_lt
      split <;> omega)
  · obtain ⟨r, h1, v, rfl, h2⟩ := this
    exact ⟨v, h1, h2⟩
  · rintro ⟨⟨x, k, r, _⟩, _⟩ ⟨h1, h2, h3⟩
    simp only at h1 h2 h3
    show ∃ o, group_Power_s2 N x k r = some o ∧ _
    unfold group_Power_s2
    have z : (0 : UInt64).toNat = 0 := rfl
    have o1 : (1 : UInt64).toNat = 1 := rfl
    by_cases hk : (0 : UInt64) < k
    · have hk' : 0 < k.toNat := by rw [UInt64.lt_iff_toNat_lt, z] at hk; exact hk
      obtain ⟨x2, ex, hx2⟩ := gmul_ok N hN x x
      obtain ⟨rx, er, hrx⟩ := gmul_ok N hN r x
      have hs : (shr64 k 1).toNat = k.toNat / 2 := u64shr k 1
      have hbit : (k &&& 1).toNat = k.toNat % 2 := by rw [UInt64.toNat_and, o1]; exact Nat.and_two_pow_sub_one_eq_mod _ 1
      have hmeas : (shr64 k 1).toNat.log2 + (if (shr64 k 1).toNat = 0 then 0 else 1) < k.toNat.log2 + (if k.toNat = 0 then 0 else 1) := by
        rw [hs, if_neg (show ¬ k.toNat = 0 by omega)]
        by_cases h : k.toNat / 2 = 0
        · rw [h, if_pos rfl]; simp
        · rw [if_neg h]
          have : k.toNat.log2 = (k.toNat / 2).log2 + 1 := by
            rw [Nat.log2_def k.toNat, if_pos (by omega)]
          omega
      have hpow : ∀ q : Nat, x2.toNat ^ q % 4611686018427377339 = x.toNat ^ (2 * q) % 4611686018427377339 := by
        intro q
        rw [hx2, ← Nat.pow_mod, Nat.pow_mul, Nat.pow_two]
      by_cases hb : k &&& 1 = 1
      · have hodd : k.toNat % 2 = 1 := by rw [← hbit, hb]; rfl
        simp only [dpos hk, dpos hb, cond_true, er, ex, Option.bind_some]
        refine ⟨_, rfl, ⟨?_, by simp only [hrx]; exact Nat.mod_lt _ (by decide), by simp only [hs]; omega⟩, by simpa only using hmeas⟩
        simp only
        rw [← h1, hs, Nat.mul_mod, hpow, hrx, Nat.mod_mod, ← Nat.mul_mod, Nat.mul_assoc, ← Nat.pow_succ', show (2 * (k.toNat / 2)).succ = k.toNat by omega]
      · have heven : k.toNat % 2 = 0 := by
          rcases (by omega : k.toNat % 2 = 0 ∨ k.toNat % 2 = 1) with h | h
          · exact h
          · exact absurd (UInt64.toNat_inj.1 (by rw [hbit, h]; rfl)) hb
        simp only [dpos hk, dneg hb, cond_true, cond_false, ex, Option.bind_some]
        refine ⟨_, rfl, ⟨?_, h2, by simp only [hs]; omega⟩, by simpa only using hmeas⟩
        simp only
        rw [← h1, hs, Nat.mul_mod, hpow, ← Nat.mul_mod, show 2 * (k.toNat / 2) = k.toNat by omega]
    · have hk' : k.toNat = 0 := by
        have : ¬ 0 < k.toNat := fun h => hk (by rw [UInt64.lt_iff_toNat_lt, z]; exact h)
        omega
      simp only [dneg hk, cond_false]
      refine ⟨_, rfl, _, rfl, r, rfl, ?_⟩
      rw [hk', Nat.pow_zero, Nat.mul_one, Nat.mod_eq_of_lt h2] at h1
      exact h1
end
end Go.Proofs.YtlamdneheilahaaDoor.Pl

/- Plain: the law KeysAgree. -/
namespace Go.Proofs.YtlamdneheilahaaDoor.Pl
open Go
theorem word_ok (N : Nat) {c : List UInt8 × (Int × Unit)} (hc : COk c) (hN : 4611686018427387904 ≤ N) : ∃ v c', make_Codes_Word N c = some ((v, ()), (c', ())) ∧ COk c' := by
  unfold make_Codes_Word
  obtain ⟨v, c1, e1, v0, v1, k1⟩ := next_ok N (n := 6) hc (by omega)
  rw [e1]
  simp only [Option.bind_some]
  by_cases h0 : v = 0
  · obtain ⟨v', c2, e2, w0, w1, k2⟩ := next_ok N (n := 4) k1 (by omega)
    simp only [dpos, dneg, w64_of, inR_of, room_of, tmod_of, cond_true, cond_false, Bool.and_self, Bool.and_true, Bool.true_and, Bool.and_false, Bool.false_and, Bool.not_true, Bool.not_false, Option.bind_some, List.length_cons, List.length_nil, Nat.zero_add, h0, e2]
    exact ⟨_, _, rfl, k2⟩
  · by_cases h1 : v = 1
    · obtain ⟨v', c2, e2, w0, w1, k2⟩ := next_ok N (n := 3) k1 (by omega)
      rw [dneg h0, dpos h1]
      simp only [dpos, dneg, w64_of, inR_of, room_of, tmod_of, cond_true, cond_false, Bool.and_self, Bool.and_true, Bool.true_and, Bool.and_false, Bool.false_and, Bool.not_true, Bool.not_false, Option.bind_some, List.length_cons, List.length_nil, Nat.zero_add, e2]
      exact ⟨_, _, rfl, k2⟩
    · rw [dneg h0, dneg h1]
      simp only [cond_false]
      unfold make_Codes_Word_1
      have := loopK_of (N := N) (step := fun y => make_Codes_Word_s2 N y.1.1 y.1.2.1 y.2.1) (J := fun (e : ((UInt64 × Unit) × (((List UInt8) × (Int × Unit)) × Unit))) => make_Codes_Word_3 N e.1.1 e.2.1)
        (I := fun y => 0 ≤ y.1.2.1 ∧ y.1.2.1 ≤ 8 ∧ COk y.2.1) (μ := fun y => (8 - y.1.2.1).toNat) (T := fun r => ∃ v c', r = ((v, ()), (c', ())) ∧ COk c') ?_
        (x := ((0, 0, ()), (c1, ()))) ⟨by simp, by simp, k1⟩ (by simp; omega)
      · obtain ⟨r, h1, v, c', rfl, h2⟩ := this
        exact ⟨v, c', h1, h2⟩
      · rintro ⟨⟨w, i, _⟩, c, _⟩ ⟨i0, i1, hk⟩
        simp only at i0 i1 hk
        show ∃ o, make_Codes_Word_s2 N w i c = some o ∧ _
        unfold make_Codes_Word_s2
        by_cases hi : i < 8
        · obtain ⟨v', c2, e2, w0, w1, k2⟩ := next_ok N (n := 256) hk (by omega)
          rw [dpos hi, e2]
          simp (disch := omega) only [dpos, dneg, w64_of, inR_of, room_of, tmod_of, cond_true, cond_false, Bool.and_self, Bool.and_true, Bool.true_and, Bool.and_false, Bool.false_and, Bool.not_true, Bool.not_false, Option.bind_some, List.length_cons, List.length_nil, Nat.zero_add]
          exact ⟨_, rfl, ⟨by simp only; omega, by simp only; omega, k2⟩, by simp only; omega⟩
        · rw [dneg hi]
          exact ⟨_, rfl, _, rfl, w, c, rfl, hk⟩
theorem secret_ok (N : Nat) {c : List UInt8 × (Int × Unit)} (hc : COk c) (hN : 4611686018427387904 ≤ N) : ∃ v c', make_Codes_Secret N c = some ((v, ()), (c', ())) ∧ COk c' ∧ 1 ≤ v.toNat ∧ v.toNat < 2305843009213688669 := by
  obtain ⟨v, c', e, k⟩ := word_ok N hc hN
  unfold make_Codes_Secret
  rw [e, Option.bind_some]
  have hm : (v % 2305843009213688668).toNat = v.toNat % 2305843009213688668 := by rw [UInt64.toNat_mod]; rfl
  have ha : (1 + v % 2305843009213688668).toNat = 1 + v.toNat % 2305843009213688668 := by
    have o : (1 : UInt64).toNat = 1 := rfl
    rw [u64add (by rw [o, hm]; omega), o, hm]
  exact ⟨_, _, rfl, k, by rw [ha]; omega, by rw [ha]; omega⟩
section
variable {p q : Nat} (hp : p = 4611686018427377339) (hq : q = 2305843009213688669)
include hp hq
theorem four_q : 4 ^ q % p = 1 := by
  subst hp
  exact Num.pow_of_pm _ 64 _ _ 1 (by omega) (by subst hq; decide +kernel)
theorem four_sq (s : Nat) : (4 ^ s % p) ^ q % p = 1 := by
  rw [← Nat.pow_mod, ← Nat.pow_mul, Nat.mul_comm, Nat.pow_mul, Nat.pow_mod, four_q hp hq, Nat.one_pow, Nat.mod_eq_of_lt (by omega)]
theorem four_ne1 (s : Nat) (h1 : 1 ≤ s) (h2 : s < q) : 4 ^ s % p ≠ 1 := by
  intro h
  have hg := Num.pow_gcd p 4 (by omega) s q h (four_q hp hq)
  have hpq := Num.prime_Q
  rw [← hq] at hpq
  have hc : Nat.gcd q s = 1 := hpq.coprime fun h => by have := Nat.le_of_dvd (by omega) h; omega
  rw [Nat.gcd_comm, hc, Nat.pow_one, Nat.mod_eq_of_lt (by omega)] at hg
  exact absurd hg (by decide)
theorem four_ne0 (s : Nat) : 4 ^ s % p ≠ 0 := by
  intro h
  have := four_sq hp hq s
  rw [h, Nat.zero_pow (by omega)] at this
  rw [Nat.zero_mod] at this
  exact absurd this (by decide)
end
theorem valid_ok (N : Nat) {s : UInt64} (h1 : 1 ≤ s.toNat) (h2 : s.toNat < 2305843009213688669) : group_valid N s = some ((true, ()), ()) := by
  have e1 : (1 : UInt64) ≤ s := by rw [UInt64.le_iff_toNat_le]; exact h1
  have e2 : s < (2305843009213688669 : UInt64) := by rw [UInt64.lt_iff_toNat_lt]; exact h2
  unfold group_valid
  rw [dpos e1, dpos e2]; rfl
theorem public_ok (N : Nat) (hN : 4611686018427387904 ≤ N) {s : UInt64} (h1 : 1 ≤ s.toNat) (h2 : s.toNat < 2305843009213688669) : ∃ r, group_Public N s = some ((r, 0, ()), ()) ∧ r.toNat = 4 ^ s.toNat % 4611686018427377339 := by
  obtain ⟨r, e, h⟩ := gpow_ok N hN 4 s
  unfold group_Public
  rw [valid_ok N h1 h2]
  simp only [dpos, dneg, w64_of, inR_of, room_of, tmod_of, cond_true, cond_false, Bool.and_self, Bool.and_true, Bool.true_and, Bool.and_false, Bool.false_and, Bool.not_true, Bool.not_false, Option.bind_some, List.length_cons, List.length_nil, Nat.zero_add, e]
  exact ⟨r, rfl, h⟩
theorem element_ok (N : Nat) (hN : 4611686018427387904 ≤ N) {s r : UInt64} (h1 : 1 ≤ s.toNat) (h2 : s.toNat < 2305843009213688669) (h : r.toNat = 4 ^ s.toNat % 4611686018427377339) : group_Element N r = some ((true, ()), ()) := by
  obtain ⟨p, hp⟩ : ∃ p : Nat, p = 4611686018427377339 := ⟨_, rfl⟩
  obtain ⟨q, hq⟩ : ∃ q : Nat, q = 2305843009213688669 := ⟨_, rfl⟩
  obtain ⟨v, e, hv⟩ := gpow_ok N hN r 2305843009213688669
  have hlt : 4 ^ s.toNat % p < p := Nat.mod_lt _ (by omega)
  have n1 := four_ne1 hp hq s.toNat h1 (by omega)
  have n0 := four_ne0 hp hq s.toNat
  have e1 : (2 : UInt64) ≤ r := by
    rw [UInt64.le_iff_toNat_le]; show 2 ≤ r.toNat
    rw [h, ← hp]
    generalize 4 ^ s.toNat % p = x at *
    omega
  have e2 : r < (4611686018427377339 : UInt64) := by
    rw [UInt64.lt_iff_toNat_lt]; show r.toNat < 4611686018427377339
    rw [h, ← hp]; exact hlt
  have e3 : v = 1 := by
    apply UInt64.toNat_inj.1
    show v.toNat = 1
    have hq' : (2305843009213688669 : UInt64).toNat = q := by rw [hq]; rfl
    rw [hv, h, hq', ← hp]
    exact four_sq hp hq _
  unfold group_Element
  rw [dpos e1, dpos e2, e]
  simp only [dpos, dneg, w64_of, inR_of, room_of, tmod_of, cond_true, cond_false, Bool.and_self, Bool.and_true, Bool.true_and, Bool.and_false, Bool.false_and, Bool.not_true, Bool.not_false, Option.bind_some, List.length_cons, List.length_nil, Nat.zero_add, e3]
theorem shared_ok (N : Nat) (hN : 4611686018427387904 ≤ N) {a b y : UInt64} (a1 : 1 ≤ a.toNat) (a2 : a.toNat < 2305843009213688669) (b1 : 1 ≤ b.toNat) (b2 : b.toNat < 2305843009213688669) (h : y.toNat = 4 ^ b.toNat % 4611686018427377339) :
    ∃ v : UInt64, group_Shared N a y = some ((0, ()), (be v 8, ())) ∧ v.toNat = 4 ^ (b.toNat * a.toNat) % 4611686018427377339 := by
  obtain ⟨v, e, hv⟩ := gpow_ok N hN y a
  refine ⟨v, ?_, ?_⟩
  · unfold group_Shared group_Shared_1 group_Bytes
    have w1 : wire_Put N v 8 [] = some ((), (be v 8, ())) := by rw [wire_put N (by omega) (by omega) (by simp) (by omega)]; rfl
    rw [valid_ok N a1 a2, element_ok N hN b1 b2 h]
    simp only [dpos, dneg, w64_of, inR_of, room_of, tmod_of, cond_true, cond_false, Bool.and_self, Bool.and_true, Bool.true_and, Bool.and_false, Bool.false_and, Bool.not_true, Bool.not_false, Option.bind_some, List.length_cons, List.length_nil, Nat.zero_add, e, w1]
  · rw [hv, h, ← Nat.pow_mod, ← Nat.pow_mul]
theorem agree (codes : List UInt8) (hc : codes.length ≤ 9223372036854775807) (i r : UInt64) :
    law16_KeysAgree 18446744073709551616 codes i r = some ((true, ()), ()) := by
  unfold law16_KeysAgree
  rw [awake16]
  generalize hN0 : 18446744073709551616 = N
  have hN : 4611686018427387904 ≤ N := by omega
  clear hN0
  simp only [dpos, dneg, w64_of, inR_of, room_of, tmod_of, cond_true, cond_false, Bool.and_self, Bool.and_true, Bool.true_and, Bool.and_false, Bool.false_and, Bool.not_true, Bool.not_false, Option.bind_some, List.length_cons, List.length_nil, Nat.zero_add]
  obtain ⟨c0, e0, k0⟩ := new_ok N codes (m := 160) (by omega) (by omega)
  obtain ⟨a, c1, e1, k1, a1, a2⟩ := secret_ok N k0 hN
  obtain ⟨b, c2, e2, k2, b1, b2⟩ := secret_ok N k1 hN
  obtain ⟨x, ex, hx⟩ := public_ok N hN a1 a2
  obtain ⟨y, ey, hy⟩ := public_ok N hN b1 b2
  obtain ⟨u, eu, hu⟩ := shared_ok N hN a1 a2 b1 b2 hy
  obtain ⟨w, ew, hw⟩ := shared_ok N hN b1 b2 a1 a2 hx
  obtain rfl : u = w := UInt64.toNat_inj.1 (by rw [hu, hw, Nat.mul_comm])
  obtain ⟨v1, c1', e3, p0, p1, k3⟩ := next_ok N (n := 20) k2 (by omega)
  obtain ⟨c2', ni, e4, l2, k4⟩ := bytes_ok (N := N) (n := 16 + v1) k3 (by omega) (by omega) (by omega)
  obtain ⟨v3, c3', e5, q0, q1, k5⟩ := next_ok N (n := 20) k4 (by omega)
  obtain ⟨c4', nr, e6, l4, k6⟩ := bytes_ok (N := N) (n := 16 + v3) k5 (by omega) (by omega) (by omega)
  have hnok : nok ni nr = true := by unfold nok; simp (disch := omega) only [dpos, Bool.and_self]
  have lb8 : (be u 8).length = 8 := be_len ..
  have hks : kseed ni nr (be u 8) = (hmac (ni ++ nr) (be u 8), 0) := by unfold kseed; rw [if_pos ⟨hnok, by omega⟩]
  have lh := hmac_len (ni ++ nr) (be u 8)
  have q3 := kderive_len (hmac (ni ++ nr) (be u 8)) ni nr i r
  have hkd : kderive (hmac (ni ++ nr) (be u 8)) ni nr i r = (dkeys (hmac (ni ++ nr) (be u 8)) ni nr i r, 0) := by unfold kderive; rw [if_pos hnok]
  rw [hkd] at q3
  simp only [e0, e1, e2, ex, ey, eu, ew, e3, e5, Option.bind_some]
  clear hu hw hx hy a1 a2 b1 b2
  generalize be u 8 = sh at *
  generalize hmac (ni ++ nr) sh = se at *
  simp (disch := omega) only [dpos, dneg, w64_of, inR_of, room_of, tmod_of, cond_true, cond_false, Bool.and_self, Bool.and_true, Bool.true_and, Bool.and_false, Bool.false_and, Bool.not_true, Bool.not_false, Option.bind_some, List.length_cons, List.length_nil, Nat.zero_add, e4, e5, e6, kseed_ok, hks, decide_true]
  have lp := plus_len se (ni ++ nr ++ (be i 8 ++ be r 8)) 172
  obtain ⟨d1, d2, d3, d4, d5⟩ : (dkeys se ni nr i r).1.length = 32 ∧ (dkeys se ni nr i r).2.1.length = 36 ∧ (dkeys se ni nr i r).2.2.1.length = 36 ∧ (dkeys se ni nr i r).2.2.2.1.length = 32 ∧ (dkeys se ni nr i r).2.2.2.2.1.length = 32 := by
    unfold dkeys
    exact ⟨pc_len (by omega), pc_len (by omega), pc_len (by omega), pc_len (by omega), pc_len (by omega)⟩
  unfold law16_KeysAgree_1
  have lse : se.length ≤ 1000 := by omega
  generalize dkeys se ni nr i r = dk at *
  have lp2 := plus_len dk.1 ([] ++ ni ++ nr) 72
  have hkc : kchild dk.1 ni nr [] = ((pc (plus dk.1 ([] ++ ni ++ nr) 72) 0 36, pc (plus dk.1 ([] ++ ni ++ nr) 72) 36 36, ()), 0) := by unfold kchild; rw [if_pos hnok]
  have g1 : (pc (plus dk.1 ([] ++ ni ++ nr) 72) 0 36).length = 36 := pc_len (by omega)
  have g2 : (pc (plus dk.1 ([] ++ ni ++ nr) 72) 36 36).length = 36 := pc_len (by omega)
  generalize pc (plus dk.1 ([] ++ ni ++ nr) 72) 0 36 = ka at *
  generalize pc (plus dk.1 ([] ++ ni ++ nr) 72) 36 36 = kb at *
  simp (disch := omega) only [dpos, dneg, w64_of, inR_of, room_of, tmod_of, cond_true, cond_false, Bool.and_self, Bool.and_true, Bool.true_and, Bool.and_false, Bool.false_and, Bool.not_true, Bool.not_false, Option.bind_some, List.length_cons, List.length_nil, Nat.zero_add, kderive_ok, hkd, same16 N q3 hN, decide_true]
  unfold law16_KeysAgree_2
  simp (disch := first | omega | (simp only [List.length_nil]; omega)) only [dpos, dneg, w64_of, inR_of, room_of, tmod_of, cond_true, cond_false, Bool.and_self, Bool.and_true, Bool.true_and, Bool.and_false, Bool.false_and, Bool.not_true, Bool.not_false, Option.bind_some, List.length_cons, List.length_nil, Nat.zero_add, kchild_ok, hkc, equal_ok, decide_true]
end Go.Proofs.YtlamdneheilahaaDoor.Pl
