/- The ghost machine: an evaluator of the program's text over plain data, and its soundness. -/
import Derived.Test.YtofajgidjkjnpaaDoorGmLoop
import Derived.Test.YtofajgidjkjnpaaDoorGmInt
import Derived.KernelRfl
import Derived.Test.YtofajgidjkjnpaaDoorFnsSealedReturnsA
import Derived.Test.YtofajgidjkjnpaaDoorFntSealedReturnsA
import Derived.Test.YtofajgidjkjnpaaDoorFnuSealedReturnsA
import Derived.Test.YtofajgidjkjnpaaDoorPolyTag
set_option linter.unusedVariables false
set_option linter.unusedSimpArgs false
/- Plain: rules by which a walk over shallow functions is decided. -/
namespace Go.Proofs.YtofajgidjkjnpaaDoor.Pl
open Go
theorem dpos {p : Prop} [Decidable p] (h : p) : decide p = true := decide_eq_true h
theorem dneg {p : Prop} [Decidable p] (h : ¬ p) : decide p = false := decide_eq_false h
theorem w64_of {x : Int} (h : -9223372036854775808 ≤ x) (h' : x ≤ 9223372036854775807) : w64 x = x := w64_id h h'
theorem inR_of {i : Int} {n : Nat} (h : 0 ≤ i) (h' : i < (n : Int)) : inR i n = true := by simp [inR, h, h']
theorem room_of {n k : Nat} (h : n * k ≤ 140737488355328) : room n k = true := by simp [room, h]
theorem tmod_of {a b : Int} (h : 0 ≤ a) : a.tmod b = a % b := Int.tmod_eq_emod_of_nonneg h

theorem take_snoc {α : Type} (l : List α) (d : α) {i : Nat} (h : i < l.length) : l.take (i + 1) = l.take i ++ [l.getD i d] := by
  rw [List.take_add_one, List.getElem?_eq_getElem h]
  simp [List.getD, h]
theorem cut_at (b : List UInt8) (k w : Nat) : cut b k (k + w) = (b.drop k).take w := by
  unfold cut; rw [List.drop_take]; congr 1; omega
end Go.Proofs.YtofajgidjkjnpaaDoor.Pl

/- Plain: rules by which a walk over shallow functions is decided; numbers in bytes (wire, ref01). -/
namespace Go.Proofs.YtofajgidjkjnpaaDoor.Pl
open Go
/-- The number of bytes, the highest first. -/
def nbr (l : List UInt8) : UInt64 := l.foldl (fun v x => shl64 v 8 ||| x.toUInt64) 0
theorem nbr_snoc (l : List UInt8) (x : UInt8) : nbr (l ++ [x]) = shl64 (nbr l) 8 ||| x.toUInt64 := by simp [nbr]
theorem nbr_take (l : List UInt8) {i : Nat} (h : i < l.length) : nbr (l.take (i + 1)) = shl64 (nbr (l.take i)) 8 ||| (l.getD i 0).toUInt64 := by
  rw [List.take_add_one, List.getElem?_eq_getElem h]
  simp only [Option.toList_some, nbr_snoc]
  simp [List.getD, h]
theorem wire_number (N : Nat) {b : List UInt8} {at_ w : Int} (hw : 1 ≤ w) (hw8 : w ≤ 8) (h0 : 0 ≤ at_) (hb : at_ + w ≤ (b.length : Int)) (hl : b.length ≤ 4611686018427387904) (hN : 8 < N) :
    wire_Number N b at_ w = some ((nbr ((b.drop at_.toNat).take w.toNat), true, ()), ()) := by
  obtain ⟨k, rfl⟩ := Int.eq_ofNat_of_zero_le h0
  obtain ⟨m, rfl⟩ := Int.eq_ofNat_of_zero_le (show 0 ≤ w by omega)
  have hs : cut b k (k + m) = (b.drop k).take m := cut_at b k m
  have hlen : ((b.drop k).take m).length = m := by simp; omega
  have e1 : ((k : Int) + (m : Int)).toNat = k + m := by omega
  unfold wire_Number wire_Number_1 wire_Slice wire_Slice_1
  simp (disch := omega) only [dpos, dneg, w64_of, inR_of, room_of, tmod_of, cond_true, cond_false, Bool.and_self, Bool.and_true, Bool.true_and, Bool.and_false, Bool.false_and, Bool.not_true, Bool.not_false, Option.bind_some, List.length_cons, List.length_nil, Nat.zero_add, Int.toNat_natCast, e1, hs]
  generalize (b.drop k).take m = s at hlen
  subst hlen
  unfold wire_Number_2
  refine (loopK_run (fun i : Nat => ((nbr (s.take i), s, (s.length : Int), (i : Int), ()), ())) (n := s.length) ?_ (e := ((nbr s, ()), ())) ?_ (by omega)).trans rfl
  · intro i hi
    show wire_Number_s3 N _ s _ _ = _
    unfold wire_Number_s3
    simp (disch := omega) only [dpos, dneg, w64_of, inR_of, room_of, tmod_of, cond_true, cond_false, Bool.and_self, Bool.and_true, Bool.true_and, Bool.and_false, Bool.false_and, Bool.not_true, Bool.not_false, Option.bind_some, List.length_cons, List.length_nil, Nat.zero_add, Int.toNat_natCast, nbr_take s hi, Int.natCast_add, Int.natCast_one]
  · show wire_Number_s3 N _ s _ _ = _
    unfold wire_Number_s3
    simp (disch := omega) only [dpos, dneg, w64_of, inR_of, room_of, tmod_of, cond_true, cond_false, Bool.and_self, Bool.and_true, Bool.true_and, Bool.and_false, Bool.false_and, Bool.not_true, Bool.not_false, Option.bind_some, List.length_cons, List.length_nil, Nat.zero_add, List.take_length]

/-- The bytes of a number, the highest first. -/
def be (v : UInt64) : Nat → List UInt8
  | 0 => []
  | k + 1 => (shr64 v (8 * (k : Int)).toNat).toUInt8 :: be v k
theorem be_len (v : UInt64) (k : Nat) : (be v k).length = k := by induction k with | zero => rfl | succ k ih => simp [be, ih]
/-- The first i of w bytes. -/
theorem be_take (v : UInt64) {i w : Nat} (h : i < w) : (be v w).take (i + 1) = (be v w).take i ++ [(shr64 v (8 * ((w : Int) - 1 - (i : Int))).toNat).toUInt8] := by
  induction w generalizing i with
  | zero => omega
  | succ w ih =>
    cases i with
    | zero =>
      simp only [be, List.take_succ_cons, List.take_zero, List.nil_append]
      rw [show ((w + 1 : Nat) : Int) - 1 - ((0 : Nat) : Int) = (w : Int) by omega]
    | succ i =>
      rw [be, List.take_succ_cons, List.take_succ_cons, ih (by omega)]
      rw [show ((w + 1 : Nat) : Int) - 1 - ((i + 1 : Nat) : Int) = (w : Int) - 1 - (i : Int) by omega]
      rfl
theorem wire_put (N : Nat) {v : UInt64} {w : Int} {b : List UInt8} (hw : 1 ≤ w) (hw8 : w ≤ 8) (hl : b.length ≤ 70368744177664) (hN : 8 < N) :
    wire_Put N v w b = some ((), (b ++ be v w.toNat, ())) := by
  obtain ⟨m, rfl⟩ := Int.eq_ofNat_of_zero_le (show 0 ≤ w by omega)
  unfold wire_Put wire_Put_1
  simp (disch := omega) only [dpos, dneg, w64_of, inR_of, room_of, tmod_of, cond_true, cond_false, Bool.and_self, Bool.and_true, Bool.true_and, Bool.and_false, Bool.false_and, Bool.not_true, Bool.not_false, Option.bind_some, List.length_cons, List.length_nil, Nat.zero_add, Int.toNat_natCast]
  unfold wire_Put_2
  have h0 : b = b ++ (be v m).take 0 := by simp
  have := loopK_run (step := fun y => wire_Put_s3 N y.1.1 y.1.2.1 y.2.1) (J := fun (e : ((Unit) × ((List UInt8) × Unit))) => wire_Put_4 N e.2.1) (fun i : Nat => ((v, (m : Int) - 1 - (i : Int), ()), (b ++ (be v m).take i, ()))) (n := m) (e := ((), (b ++ be v m, ()))) ?_ ?_ (show m < N by omega)
  · simp only [Int.natCast_zero, Int.sub_zero, List.take_zero, List.append_nil] at this
    exact this
  · intro i hi
    have hlen := be_len v m
    have hle : ((be v m).take i).length = i := by simp; omega
    show wire_Put_s3 N v _ _ = _
    unfold wire_Put_s3
    simp (disch := omega) only [dpos, dneg, w64_of, inR_of, room_of, tmod_of, cond_true, cond_false, Bool.and_self, Bool.and_true, Bool.true_and, Bool.and_false, Bool.false_and, Bool.not_true, Bool.not_false, Option.bind_some, List.length_cons, List.length_nil, Nat.zero_add, List.length_append, hle]
    rw [be_take v hi, List.append_assoc, show (m : Int) - 1 - (i : Int) - 1 = (m : Int) - 1 - ((i + 1 : Nat) : Int) by omega]
  · show wire_Put_s3 N v _ _ = _
    unfold wire_Put_s3
    simp (disch := omega) only [dpos, dneg, w64_of, inR_of, room_of, tmod_of, cond_true, cond_false, Bool.and_self, Bool.and_true, Bool.true_and, Bool.and_false, Bool.false_and, Bool.not_true, Bool.not_false, Option.bind_some, List.length_cons, List.length_nil, Nat.zero_add]
    rw [List.take_of_length_le (by rw [be_len]; omega)]
end Go.Proofs.YtofajgidjkjnpaaDoor.Pl

/- Plain: numbers and their bytes. -/
namespace Go.Proofs.YtofajgidjkjnpaaDoor.Pl
open Go
def bnat (l : List UInt8) : Nat := l.foldl (fun v x => v * 256 + x.toNat) 0
theorem bnat_snoc (l : List UInt8) (x : UInt8) : bnat (l ++ [x]) = bnat l * 256 + x.toNat := by simp [bnat]
theorem snoc_cases {α : Type} {l : List α} {n : Nat} (h : l.length = n + 1) : ∃ l' x, l = l' ++ [x] ∧ l'.length = n :=
  ⟨l.dropLast, l.getLast (by intro e; subst e; simp at h), (List.dropLast_concat_getLast _).symm, by simp [h]⟩
theorem bnat_lt : ∀ {n : Nat} {l : List UInt8}, l.length = n → bnat l < 256 ^ n
  | 0, l, h => by obtain rfl := List.length_eq_zero_iff.1 h; simp [bnat]
  | n + 1, l, h => by
    obtain ⟨l', x, rfl, h'⟩ := snoc_cases h
    have := bnat_lt h'
    have hx := x.toNat_lt
    rw [bnat_snoc, Nat.pow_succ]; omega
theorem shl_or (v : UInt64) (x : UInt8) (h : v.toNat < 72057594037927936) : (shl64 v 8 ||| x.toUInt64).toNat = v.toNat * 256 + x.toNat := by
  have hx := x.toNat_lt
  rw [UInt64.toNat_or]
  have e : (shl64 v 8).toNat = v.toNat <<< 8 := by
    show (v.toBitVec <<< 8).toNat = _
    rw [BitVec.toNat_shiftLeft, UInt64.toNat_toBitVec, Nat.shiftLeft_eq]
    omega
  rw [e, UInt8.toNat_toUInt64, ← Nat.shiftLeft_add_eq_or_of_lt (b := x.toNat) (i := 8) (by omega), Nat.shiftLeft_eq]
theorem nbr_nat : ∀ {n : Nat} {l : List UInt8}, l.length = n → n ≤ 8 → (nbr l).toNat = bnat l
  | 0, l, h, _ => by obtain rfl := List.length_eq_zero_iff.1 h; rfl
  | n + 1, l, h, hn => by
    obtain ⟨l', x, rfl, h'⟩ := snoc_cases h
    have ih := nbr_nat h' (by omega)
    have hl := bnat_lt h'
    have hp : 256 ^ n ≤ 256 ^ 7 := Nat.pow_le_pow_right (by decide) (by omega)
    rw [nbr_snoc, shl_or _ _ (by rw [ih]; omega), bnat_snoc, ih]
theorem shr_nat (v : UInt64) (n : Nat) : (shr64 v n).toNat = v.toNat / 2 ^ n := by
  show (v.toBitVec >>> n).toNat = _
  rw [BitVec.toNat_ushiftRight, Nat.shiftRight_eq_div_pow]; rfl
theorem be_snoc (v : UInt64) : ∀ k : Nat, be v (k + 1) = be (shr64 v 8) k ++ [v.toUInt8]
  | 0 => by
    show [(shr64 v (8 * ((0 : Nat) : Int)).toNat).toUInt8] = [v.toUInt8]
    have : shr64 v (8 * ((0 : Nat) : Int)).toNat = v := UInt64.toNat_inj.1 (by rw [shr_nat]; simp)
    rw [this]
  | k + 1 => by
    rw [be, be_snoc v k, be, List.cons_append]
    congr 2
    apply UInt64.toNat_inj.1
    rw [shr_nat, shr_nat, shr_nat, Nat.div_div_eq_div_mul, ← Nat.pow_add, show (8 * ((k + 1 : Nat) : Int)).toNat = 8 + (8 * (k : Int)).toNat by omega]
theorem bnat_be : ∀ (k : Nat) (v : UInt64), bnat (be v k) = v.toNat % 256 ^ k
  | 0, v => by simp [be, bnat, Nat.mod_one]
  | k + 1, v => by
    have e : v.toNat % 256 ^ (k + 1) = v.toNat % 256 + 256 * (v.toNat / 256 % 256 ^ k) := by rw [Nat.pow_succ, Nat.mul_comm (256 ^ k) 256, Nat.mod_mul]
    rw [be_snoc, bnat_snoc, bnat_be k, shr_nat, UInt64.toNat_toUInt8, e]
    have e2 : (2 : Nat) ^ 8 = 256 := rfl
    rw [e2]
    omega
theorem nbr_be' {k : Nat} (hk : k ≤ 8) (v : UInt64) (hv : v.toNat < 256 ^ k) : nbr (be v k) = v := by
  apply UInt64.toNat_inj.1
  rw [nbr_nat (be_len v k) hk, bnat_be, Nat.mod_eq_of_lt hv]
theorem nbr_lt {k : Nat} (hk : k ≤ 8) {l : List UInt8} (h : l.length = k) : (nbr l).toNat < 256 ^ k := by
  rw [nbr_nat h hk]; exact bnat_lt h
end Go.Proofs.YtofajgidjkjnpaaDoor.Pl

/- Plain: headers of messages, the program's and the reference's. -/
namespace Go.Proofs.YtofajgidjkjnpaaDoor.Pl
open Go
abbrev Hd : Type := UInt64 × UInt64 × Int × Int × Int × UInt32 × Unit
def hnil : Hd := (0, 0, 0, 0, 0, 0, ())
noncomputable def hcheck (h : Hd) : Int := match header_Check 0 h with
  | some r => r.1.1
  | none => 0
theorem hcheck_ok (N : Nat) (h : Hd) : header_Check N h = some ((hcheck h, ()), ()) := by
  unfold hcheck header_Check
  generalize decide (h.1 = (0 : UInt64)) = c1
  generalize decide (h.2.2.2.1 < (34 : Int)) = c2
  generalize decide ((37 : Int) < h.2.2.2.1) = c3
  generalize decide (h.2.2.1 < (0 : Int)) = c4
  generalize decide ((255 : Int) < h.2.2.1) = c5
  generalize decide (andNot64 h.2.2.2.2.1 (56 : Int) = (0 : Int)) = c6
  generalize decide (h.2.2.2.1 = (34 : Int)) = c7
  generalize decide (h.2.1 = (0 : UInt64)) = c8
  generalize decide (h.2.2.2.2.2.1 = (0 : UInt32)) = c9
  cases c1 <;> cases c2 <;> cases c3 <;> cases c4 <;> cases c5 <;> cases c6 <;> cases c7 <;> cases c8 <;> cases c9 <;> rfl
/-- The bytes of a header. -/
def hbytes (h : Hd) (n : Int) : List UInt8 := be h.1 8 ++ be h.2.1 8 ++ [iu8 h.2.2.1, 32, iu8 h.2.2.2.1, iu8 h.2.2.2.2.1] ++ be h.2.2.2.2.2.1.toUInt64 4 ++ be (iu64 n) 4
theorem hbytes_len (h : Hd) (n : Int) : (hbytes h n).length = 28 := by simp [hbytes, be_len]
noncomputable def hbuild (h : Hd) (n : Int) : List UInt8 × Int := if hcheck h ≠ 0 then ([], hcheck h) else if n < 28 ∨ 8192 < n then ([], 5) else (hbytes h n, 0)
theorem hbuild_ok (N : Nat) (hN : 8 < N) (h : Hd) (n : Int) : header_Build N h n = some (((hbuild h n).2, ()), ((hbuild h n).1, ())) := by
  unfold header_Build hbuild
  rw [hcheck_ok]
  simp only [Option.bind_some]
  by_cases h0 : hcheck h = 0
  · rw [dpos h0, if_neg (not_not_intro h0)]
    have l1 := be_len h.1 8
    have l2 := be_len h.2.1 8
    have l4 := be_len h.2.2.2.2.2.1.toUInt64 4
    by_cases h1 : n < 28
    · rw [if_pos (.inl h1)]
      unfold header_Build_1
      simp only [dpos, dneg, w64_of, inR_of, room_of, tmod_of, cond_true, cond_false, Bool.and_self, Bool.and_true, Bool.true_and, Bool.and_false, Bool.false_and, Bool.not_true, Bool.not_false, Option.bind_some, List.length_cons, List.length_nil, Nat.zero_add, h1, decide_true]
    · by_cases h2 : 8192 < n
      · rw [if_pos (.inr h2)]
        unfold header_Build_1
        simp only [dpos, dneg, w64_of, inR_of, room_of, tmod_of, cond_true, cond_false, Bool.and_self, Bool.and_true, Bool.true_and, Bool.and_false, Bool.false_and, Bool.not_true, Bool.not_false, Option.bind_some, List.length_cons, List.length_nil, Nat.zero_add, h1, h2, decide_true, decide_false]
      · rw [if_neg (by omega)]
        unfold header_Build_1
        rw [dneg h1, dneg h2]
        simp only [dpos, dneg, w64_of, inR_of, room_of, tmod_of, cond_true, cond_false, Bool.and_self, Bool.and_true, Bool.true_and, Bool.and_false, Bool.false_and, Bool.not_true, Bool.not_false, Option.bind_some, List.length_cons, List.length_nil, Nat.zero_add]
        rw [wire_put N (by omega) (by omega) (by simp) hN]
        simp only [Option.bind_some]
        rw [wire_put N (by omega) (by omega) (by simp [be_len]) hN]
        simp only [Option.bind_some]
        rw [room_of (by simp [be_len]), cond_true, wire_put N (by omega) (by omega) (by simp [be_len]) hN]
        simp only [Option.bind_some]
        rw [wire_put N (by omega) (by omega) (by simp [be_len]) hN]
        rfl
  · rw [dneg h0, if_pos h0]
    rfl
/-- What a message's first 28 bytes say. -/
def hread (b : List UInt8) : Hd := (nbr (b.take 8), nbr ((b.drop 8).take 8), ((b.getD 16 0).toNat : Int), ((b.getD 18 0).toNat : Int), and64 ((b.getD 19 0).toNat : Int) 56, (nbr ((b.drop 20).take 4)).toUInt32, ())
noncomputable def hparse (b : List UInt8) : Hd × Int :=
  if b.length < 28 then (hnil, 1) else if ¬ shr8 (b.getD 17 0) 4 = 2 then (hnil, 3) else if ¬ nbr ((b.drop 24).take 4) = iu64 (b.length : Int) then (hnil, 2) else if ¬ hcheck (hread b) = 0 then (hnil, hcheck (hread b)) else (hread b, 0)
theorem wshort (N : Nat) {b : List UInt8} {at_ w : Int} (hw : 1 ≤ w) (hw8 : w ≤ 8) (h0 : 0 ≤ at_) (h1 : at_ ≤ 100000) (hb : (b.length : Int) < at_ + w) (hl : b.length ≤ 4611686018427387904) :
    wire_Number N b at_ w = some ((0, false, ()), ()) := by
  unfold wire_Number wire_Number_1 wire_Slice wire_Slice_1
  by_cases h : at_ ≤ (b.length : Int)
  · simp (disch := omega) only [dpos, dneg, w64_of, inR_of, room_of, tmod_of, cond_true, cond_false, Bool.and_self, Bool.and_true, Bool.true_and, Bool.and_false, Bool.false_and, Bool.not_true, Bool.not_false, Option.bind_some, List.length_cons, List.length_nil, Nat.zero_add]
  · simp (disch := omega) only [dpos, dneg, w64_of, inR_of, room_of, tmod_of, cond_true, cond_false, Bool.and_self, Bool.and_true, Bool.true_and, Bool.and_false, Bool.false_and, Bool.not_true, Bool.not_false, Option.bind_some, List.length_cons, List.length_nil, Nat.zero_add]
theorem take_ok (N : Nat) (hN : 8 < N) {b : List UInt8} {at_ w : Int} (hw : 1 ≤ w) (hw8 : w ≤ 8) (h0 : 0 ≤ at_) (hb : at_ + w ≤ (b.length : Int)) (hl : b.length ≤ 4611686018427387904) :
    header_cursor_take N w (b, at_, false, ()) = some ((nbr ((b.drop at_.toNat).take w.toNat), ()), ((b, at_ + w, false, ()), ())) := by
  unfold header_cursor_take header_cursor_take_1
  simp (disch := omega) only [dpos, dneg, w64_of, inR_of, room_of, tmod_of, cond_true, cond_false, Bool.and_self, Bool.and_true, Bool.true_and, Bool.and_false, Bool.false_and, Bool.not_true, Bool.not_false, Option.bind_some, List.length_cons, List.length_nil, Nat.zero_add, wire_number N]
def Cur (b : List UInt8) (o : Int) (c : List UInt8 × (Int × (Bool × Unit))) : Prop := ∃ at_ f, c = (b, at_, f, ()) ∧ 0 ≤ at_ ∧ at_ ≤ o ∧ (f = true ∨ (at_ = o ∧ o ≤ (b.length : Int)))
theorem take_cur (N : Nat) (hN : 8 < N) {b : List UInt8} {c : List UInt8 × (Int × (Bool × Unit))} {o w : Int} (hw : 1 ≤ w) (hw8 : w ≤ 8) (ho : o ≤ 100) (hl : b.length ≤ 4611686018427387904) (hc : Cur b o c) : ∃ v c', header_cursor_take N w c = some ((v, ()), (c', ())) ∧ Cur b (o + w) c' := by
  obtain ⟨at_, f, rfl, h0, h1, h2⟩ := hc
  by_cases hs : (b.length : Int) < at_ + w
  · unfold header_cursor_take header_cursor_take_1
    simp (disch := omega) only [dpos, dneg, w64_of, inR_of, room_of, tmod_of, cond_true, cond_false, Bool.and_self, Bool.and_true, Bool.true_and, Bool.and_false, Bool.false_and, Bool.not_true, Bool.not_false, Option.bind_some, List.length_cons, List.length_nil, Nat.zero_add, wshort N]
    cases f
    · exact ⟨_, _, rfl, at_, true, rfl, h0, by omega, .inl rfl⟩
    · exact ⟨_, _, rfl, at_, true, rfl, h0, by omega, .inl rfl⟩
  · unfold header_cursor_take header_cursor_take_1
    simp (disch := omega) only [dpos, dneg, w64_of, inR_of, room_of, tmod_of, cond_true, cond_false, Bool.and_self, Bool.and_true, Bool.true_and, Bool.and_false, Bool.false_and, Bool.not_true, Bool.not_false, Option.bind_some, List.length_cons, List.length_nil, Nat.zero_add, wire_number N]
    cases f
    · refine ⟨_, _, rfl, at_ + w, false, rfl, by omega, by omega, .inr ?_⟩
      rcases h2 with h2 | h2
      · cases h2
      · omega
    · exact ⟨_, _, rfl, at_, true, rfl, h0, by omega, .inl rfl⟩
theorem nbr1 (x : UInt8) : nbr [x] = x.toUInt64 := by
  apply UInt64.toNat_inj.1
  rw [nbr_nat (n := 1) (l := [x]) rfl (by omega)]
  simp [bnat]
theorem take1 {b : List UInt8} {k : Nat} (h : k < b.length) : (b.drop k).take 1 = [b.getD k 0] := by
  have e : b.getD k 0 = b[k] := by simp [List.getD, h]
  rw [e, List.drop_eq_getElem_cons h]; rfl
theorem ver_iff (x : UInt8) : decide (x.toUInt64 / 16 = 2) = decide (shr8 x 4 = 2) := by
  have : ∀ n : Nat, n < 256 → decide ((UInt8.ofNat n).toUInt64 / 16 = 2) = decide (shr8 (UInt8.ofNat n) 4 = 2) := by decide +kernel
  have h := this x.toNat x.toNat_lt
  simpa using h
theorem hparse_ok (N : Nat) (hN : 8 < N) {b : List UInt8} (hl : b.length ≤ 4611686018427387904) : header_Parse N b = some (((hparse b).1, (hparse b).2, ()), ()) := by
  unfold header_Parse
  by_cases h28 : b.length < 28
  · obtain ⟨v1, c1, e1, k1⟩ := take_cur N hN (w := 8) (by omega) (by omega) (by omega) hl (show Cur b 0 (b, 0, false, ()) from ⟨0, false, rfl, by omega, by omega, .inr ⟨rfl, by omega⟩⟩)
    obtain ⟨v2, c2, e2, k2⟩ := take_cur N hN (w := 8) (by omega) (by omega) (by omega) hl k1
    obtain ⟨v3, c3, e3, k3⟩ := take_cur N hN (w := 1) (by omega) (by omega) (by omega) hl k2
    obtain ⟨v4, c4, e4, k4⟩ := take_cur N hN (w := 1) (by omega) (by omega) (by omega) hl k3
    obtain ⟨v5, c5, e5, k5⟩ := take_cur N hN (w := 1) (by omega) (by omega) (by omega) hl k4
    obtain ⟨v6, c6, e6, k6⟩ := take_cur N hN (w := 1) (by omega) (by omega) (by omega) hl k5
    obtain ⟨v7, c7, e7, k7⟩ := take_cur N hN (w := 4) (by omega) (by omega) (by omega) hl k6
    obtain ⟨v8, c8, e8, at8, f8, rfl, _, _, k8⟩ := take_cur N hN (w := 4) (by omega) (by omega) (by omega) hl k7
    have hf : f8 = true := by
      rcases k8 with k8 | k8
      · exact k8
      · omega
    subst hf
    simp only [e1, e2, e3, e4, e5, e6, e7, e8, Option.bind_some, hcheck_ok, cond_true]
    unfold hparse
    rw [if_pos h28]
    rfl
  · simp (disch := omega) only [take_ok N hN, Option.bind_some, Int.zero_add, Int.reduceAdd, Int.toNat_zero, List.drop_zero, hcheck_ok]
    have i1 : ∀ k : Nat, k < 28 → List.take (1 : Int).toNat (List.drop k b) = [b.getD k 0] := fun k hk => take1 (by omega)
    have w1 : ∀ x : UInt8, w64 ((nbr [x]).toNat : Int) = (x.toNat : Int) := by
      intro x
      rw [nbr1, UInt8.toNat_toUInt64]
      have := x.toNat_lt
      exact w64_of (by omega) (by omega)
    rw [show (16 : Int).toNat = 16 from rfl, show (17 : Int).toNat = 17 from rfl, show (18 : Int).toNat = 18 from rfl, show (19 : Int).toNat = 19 from rfl, i1 16 (by omega), i1 17 (by omega), i1 18 (by omega), i1 19 (by omega), w1, w1, w1]
    have hh : (nbr (List.take (8 : Int).toNat b), nbr (List.take (8 : Int).toNat (List.drop (8 : Int).toNat b)), ((b.getD 16 0).toNat : Int), ((b.getD 18 0).toNat : Int), and64 ((b.getD 19 0).toNat : Int) 56, (nbr (List.take (4 : Int).toNat (List.drop (20 : Int).toNat b))).toUInt32, ()) = hread b := rfl
    rw [hh, nbr1, ver_iff]
    unfold hparse header_Parse_1
    rw [if_neg h28]
    simp only [cond_false]
    by_cases hv : shr8 (b.getD 17 0) 4 = 2
    · rw [if_neg (not_not_intro hv), dpos hv]
      simp only [Bool.not_true, cond_false]
      by_cases h2 : nbr ((b.drop 24).take 4) = iu64 (b.length : Int)
      · have h2' : nbr (List.take (4 : Int).toNat (List.drop (24 : Int).toNat b)) = iu64 (b.length : Int) := h2
        rw [if_neg (not_not_intro h2), dpos h2']
        simp only [Bool.not_true, cond_false]
        by_cases h0 : hcheck (hread b) = 0
        · rw [dpos h0, if_neg (not_not_intro h0)]; rfl
        · rw [dneg h0, if_pos h0]; rfl
      · have h2' : ¬ nbr (List.take (4 : Int).toNat (List.drop (24 : Int).toNat b)) = iu64 (b.length : Int) := h2
        rw [if_pos h2, dneg h2']; rfl
    · rw [if_pos hv, dneg hv]; rfl
/-- A message that is read is no longer than its four bytes can say. -/
theorem hparse_len {b : List UInt8} (hl : b.length ≤ 4611686018427387904) (h : (hparse b).2 = 0) : 28 ≤ b.length ∧ b.length < 4294967296 := by
  unfold hparse at h
  by_cases h28 : b.length < 28
  · rw [if_pos h28] at h; cases h
  rw [if_neg h28] at h
  by_cases hv : shr8 (b.getD 17 0) 4 = 2
  · rw [if_neg (not_not_intro hv)] at h
    by_cases h2 : nbr ((b.drop 24).take 4) = iu64 (b.length : Int)
    · refine ⟨by omega, ?_⟩
      have h3 := nbr_lt (k := 4) (by omega) (l := (b.drop 24).take 4) (by simp; omega)
      rw [h2] at h3
      have : (iu64 (b.length : Int)).toNat = b.length := by
        show (BitVec.ofInt 64 (b.length : Int)).toNat = _
        rw [BitVec.ofInt_natCast, BitVec.toNat_ofNat]; omega
      rw [this] at h3
      omega
    · rw [if_pos h2] at h; cases h
  · rw [if_pos hv] at h; cases h
end Go.Proofs.YtofajgidjkjnpaaDoor.Pl

/- Plain: an encrypted message that is read: its one payload. -/
namespace Go.Proofs.YtofajgidjkjnpaaDoor.Pl
open Go
/-- The body of a last payload, what it names, the error. -/
def cbody (c : List UInt8) : List UInt8 × Int × Int :=
  if c.length < 4 then ([], 0, 1) else if (nbr ((c.drop 2).take 2)).toNat < 4 ∨ c.length < (nbr ((c.drop 2).take 2)).toNat then ([], 0, 2) else if (nbr ((c.drop 2).take 2)).toNat < c.length then ([], 0, 2) else (c.drop 4, ((c.getD 0 0).toNat : Int), 0)
def ccrit (c : List UInt8) : Bool := !(decide ((c.getD 1 0) &&& 128 = 0))
theorem nbr2_lt {c : List UInt8} (h : 4 ≤ c.length) : (nbr ((c.drop 2).take 2)).toNat < 65536 := nbr_lt (k := 2) (by omega) (by simp; omega)
theorem u4_lt (v : UInt64) : decide (v < 4) = decide (v.toNat < 4) := by
  rw [Bool.eq_iff_iff, decide_eq_true_eq, decide_eq_true_eq, UInt64.lt_iff_toNat_lt]; rfl
theorem iu64_nat {n : Nat} (h : n < 18446744073709551616) : (iu64 (n : Int)).toNat = n := by
  show (BitVec.ofInt 64 (n : Int)).toNat = _
  rw [BitVec.ofInt_natCast, BitVec.toNat_ofNat]; omega
theorem iu_lt {n : Nat} (h : n < 18446744073709551616) (v : UInt64) : decide (iu64 (n : Int) < v) = decide (n < v.toNat) := by
  rw [Bool.eq_iff_iff, decide_eq_true_eq, decide_eq_true_eq, UInt64.lt_iff_toNat_lt, iu64_nat h]
theorem last_ok (N : Nat) {k : Int} (hk : k = 46 ∨ k = 53) : chain_last N k = some ((true, ()), ()) := by
  rcases hk with rfl | rfl <;> rfl
theorem cread_ok (N : Nat) (hN : 8 < N) (k : Int) {c : List UInt8} (hl : c.length ≤ 140737488351232) :
    ∃ st, chain_read N k c = some ((st, ()), ()) ∧ st.2.2.2.1 = (if c.length < 4 then 1 else if (nbr ((c.drop 2).take 2)).toNat < 4 ∨ c.length < (nbr ((c.drop 2).take 2)).toNat then 2 else (0 : Int)) ∧
      (st.2.2.2.1 = 0 → st = ((k, ccrit c, cut c 4 (nbr ((c.drop 2).take 2)).toNat, ()), ((c.getD 0 0).toNat : Int), cut c (nbr ((c.drop 2).take 2)).toNat c.length, 0, ())) := by
  unfold chain_read
  by_cases h4 : c.length < 4
  · rw [dpos (by omega), if_pos h4]
    exact ⟨_, rfl, rfl, fun h => by cases h⟩
  rw [dneg (by omega), if_neg h4, cond_false, wire_number N (by omega) (by omega) (by omega) (by omega) (by omega) hN]
  have hn := nbr2_lt (c := c) (by omega)
  rw [show (2 : Int).toNat = 2 from rfl]
  generalize nbr ((c.drop 2).take 2) = v at *
  simp only [Option.bind_some, u4_lt]
  rw [iu_lt (by omega)]
  unfold chain_read_1
  by_cases h1 : v.toNat < 4
  · rw [dpos h1, if_pos (.inl h1)]
    exact ⟨_, rfl, rfl, fun h => by cases h⟩
  by_cases h2 : c.length < v.toNat
  · rw [dneg h1, dpos h2, if_pos (.inr h2)]
    exact ⟨_, rfl, rfl, fun h => by cases h⟩
  rw [dneg h1, dneg h2, if_neg (by omega)]
  have hc : (cut c 4 v.toNat).length ≤ c.length := by simp [cut]; omega
  simp (disch := omega) only [dpos, dneg, w64_of, inR_of, room_of, tmod_of, cond_true, cond_false, Bool.and_self, Bool.and_true, Bool.true_and, Bool.and_false, Bool.false_and, Bool.not_true, Bool.not_false, Option.bind_some, List.length_cons, List.length_nil, Nat.zero_add, Int.toNat_natCast]
  exact ⟨_, rfl, rfl, fun _ => rfl⟩
theorem cparse_ok (N : Nat) (hN : 8 < N) {k : Int} (hk : k = 46 ∨ k = 53) {c : List UInt8} (hl : c.length ≤ 140737488351232) :
    chain_Parse N k c = some ((if (cbody c).2.2 = 0 then [(k, ccrit c, (cbody c).1, ())] else [], (cbody c).2.1, (cbody c).2.2, ()), ()) := by
  unfold chain_Parse
  obtain ⟨st, e1, e2, e3⟩ := cread_ok N hN k hl
  have hb : (decide (k = 46) || decide (k = 53)) = true := by rw [Bool.or_eq_true, decide_eq_true_eq, decide_eq_true_eq]; exact hk
  rw [hb, e1, cond_true, Option.bind_some]
  show chain_Parse_T N st = _
  unfold chain_Parse_T chain_Parse_U cbody
  by_cases h4 : c.length < 4
  · rw [if_pos h4] at e2 ⊢
    rw [e2]; rfl
  rw [if_neg h4] at e2 ⊢
  have hn := nbr2_lt (c := c) (by omega)
  by_cases h1 : (nbr ((c.drop 2).take 2)).toNat < 4 ∨ c.length < (nbr ((c.drop 2).take 2)).toNat
  · rw [if_pos h1] at e2 ⊢
    rw [e2]; rfl
  rw [if_neg h1] at e2 ⊢
  have e4 := e3 e2
  generalize nbr ((c.drop 2).take 2) = v at *
  subst e4
  simp only [dpos, dneg, w64_of, inR_of, room_of, tmod_of, cond_true, cond_false, Bool.and_self, Bool.and_true, Bool.true_and, Bool.and_false, Bool.false_and, Bool.not_true, Bool.not_false, Option.bind_some, List.length_cons, List.length_nil, Nat.zero_add, last_ok N hk, decide_true]
  by_cases h2 : v.toNat < c.length
  · have : (0 : Int) < ((cut c v.toNat c.length).length : Int) := by simp [cut]; omega
    rw [if_pos h2, dpos this]
    rw [room_of (by omega)]
    rfl
  · have hv : v.toNat = c.length := by omega
    have hz : cut c v.toNat c.length = [] := by rw [hv]; simp [cut]
    have hd : cut c 4 v.toNat = c.drop 4 := by rw [hv]; simp [cut]
    rw [if_neg h2, hz, hd, room_of (by omega)]
    rfl
end Go.Proofs.YtofajgidjkjnpaaDoor.Pl

/- Plain: a block of ChaCha20, the program's and the reference's: one function. -/
namespace Go.Proofs.YtofajgidjkjnpaaDoor.Pl
open Go
noncomputable section
def rl (x : UInt32) (n : Nat) : UInt32 := shl32 x n ||| shr32 x (32 - n)
def q3 (a b d : UInt32) : UInt32 := rl (d ^^^ (a + b)) 16
def q6 (a b c d : UInt32) : UInt32 := rl (b ^^^ (c + q3 a b d)) 12
def q9 (a b c d : UInt32) : UInt32 := rl (q3 a b d ^^^ ((a + b) + q6 a b c d)) 8
def q12 (a b c d : UInt32) : UInt32 := rl (q6 a b c d ^^^ ((c + q3 a b d) + q9 a b c d)) 7
theorem quarter_ok (N : Nat) (a b c d : UInt32) : chacha_Quarter N a b c d = some (((a + b) + q6 a b c d, q12 a b c d, (c + q3 a b d) + q9 a b c d, q9 a b c d, ()), ()) := by kernel_rfl
/-- Four words of a state are mixed. -/
def mixl (s : List UInt32) (i j k l : Nat) : List UInt32 :=
  (((s.set i ((s.getD i 0 + s.getD j 0) + q6 (s.getD i 0) (s.getD j 0) (s.getD k 0) (s.getD l 0))).set j (q12 (s.getD i 0) (s.getD j 0) (s.getD k 0) (s.getD l 0))).set k ((s.getD k 0 + q3 (s.getD i 0) (s.getD j 0) (s.getD l 0)) + q9 (s.getD i 0) (s.getD j 0) (s.getD k 0) (s.getD l 0))).set l
    (q9 (s.getD i 0) (s.getD j 0) (s.getD k 0) (s.getD l 0))
def d1 (s : List UInt32) : List UInt32 := mixl (mixl (mixl (mixl s 0 4 8 12) 1 5 9 13) 2 6 10 14) 3 7 11 15
def d2 (s : List UInt32) : List UInt32 := mixl (mixl (mixl (mixl s 0 5 10 15) 1 6 11 12) 2 7 8 13) 3 4 9 14
/-- A double round. -/
def dr (s : List UInt32) : List UInt32 := d2 (d1 s)
theorem loopK_go {S E R : Type} {step : S → Option (Lo S E R)} {J : E → Option R} {N M : Nat} {x x' : S} (hN : N = M + 1) (h : step x = some (.go x')) : loopK N step J x = loopK M step J x' := by
  rw [hN, loopK_succ, h]; rfl
theorem loopK_br {S E R : Type} {step : S → Option (Lo S E R)} {J : E → Option R} {N M : Nat} {x : S} {e : E} (hN : N = M + 1) (h : step x = some (.br e)) : loopK N step J x = J e := by
  rw [hN, loopK_succ, h]; rfl
theorem s7_ok (N : Nat) (t : Int) (f s : List UInt32) (i a b c d : Nat) (hi : i < 8) (hq : g_chacha_quarters.getD i (List.replicate 4 0) = [(a : Int), (b : Int), (c : Int), (d : Int)]) (ha : a < 16) (hb : b < 16) (hc : c < 16) (hd : d < 16) :
    chacha_Block_s7 N t g_chacha_quarters (i : Int) f s = some (.go ((t, g_chacha_quarters, (i : Int) + 1, ()), (f, mixl s a b c d, ()))) := by
  unfold chacha_Block_s7
  simp (disch := omega) only [dpos, dneg, w64_of, inR_of, room_of, tmod_of, cond_true, cond_false, Bool.and_self, Bool.and_true, Bool.true_and, Bool.and_false, Bool.false_and, Bool.not_true, Bool.not_false, Option.bind_some, List.length_cons, List.length_nil, Nat.zero_add, Int.toNat_natCast, hq, List.getD_cons_zero, List.getD_cons_succ, quarter_ok, mixl]
theorem double_ok (N : Nat) (hN : 4611686018427387904 ≤ N) (t : Int) (ht : 0 ≤ t) (ht' : t < 10) (f s : List UInt32) : chacha_Block_6 N t g_chacha_quarters 0 f s = some (.go ((t + 1, ()), (f, dr s, ()))) := by
  obtain ⟨M, hM⟩ : ∃ M, N = M + 8 + 1 := ⟨N - 9, by omega⟩
  have s0 : ∀ s, chacha_Block_s7 N t g_chacha_quarters 0 f s = some (.go ((t, g_chacha_quarters, 1, ()), (f, mixl s 0 4 8 12, ()))) := fun s => s7_ok N t f s 0 0 4 8 12 (by decide) (by kernel_rfl) (by decide) (by decide) (by decide) (by decide)
  have s1 : ∀ s, chacha_Block_s7 N t g_chacha_quarters 1 f s = some (.go ((t, g_chacha_quarters, 2, ()), (f, mixl s 1 5 9 13, ()))) := fun s => s7_ok N t f s 1 1 5 9 13 (by decide) (by kernel_rfl) (by decide) (by decide) (by decide) (by decide)
  have s2 : ∀ s, chacha_Block_s7 N t g_chacha_quarters 2 f s = some (.go ((t, g_chacha_quarters, 3, ()), (f, mixl s 2 6 10 14, ()))) := fun s => s7_ok N t f s 2 2 6 10 14 (by decide) (by kernel_rfl) (by decide) (by decide) (by decide) (by decide)
  have s3 : ∀ s, chacha_Block_s7 N t g_chacha_quarters 3 f s = some (.go ((t, g_chacha_quarters, 4, ()), (f, mixl s 3 7 11 15, ()))) := fun s => s7_ok N t f s 3 3 7 11 15 (by decide) (by kernel_rfl) (by decide) (by decide) (by decide) (by decide)
  have s4 : ∀ s, chacha_Block_s7 N t g_chacha_quarters 4 f s = some (.go ((t, g_chacha_quarters, 5, ()), (f, mixl s 0 5 10 15, ()))) := fun s => s7_ok N t f s 4 0 5 10 15 (by decide) (by kernel_rfl) (by decide) (by decide) (by decide) (by decide)
  have s5 : ∀ s, chacha_Block_s7 N t g_chacha_quarters 5 f s = some (.go ((t, g_chacha_quarters, 6, ()), (f, mixl s 1 6 11 12, ()))) := fun s => s7_ok N t f s 5 1 6 11 12 (by decide) (by kernel_rfl) (by decide) (by decide) (by decide) (by decide)
  have s6 : ∀ s, chacha_Block_s7 N t g_chacha_quarters 6 f s = some (.go ((t, g_chacha_quarters, 7, ()), (f, mixl s 2 7 8 13, ()))) := fun s => s7_ok N t f s 6 2 7 8 13 (by decide) (by kernel_rfl) (by decide) (by decide) (by decide) (by decide)
  have s7 : ∀ s, chacha_Block_s7 N t g_chacha_quarters 7 f s = some (.go ((t, g_chacha_quarters, 8, ()), (f, mixl s 3 4 9 14, ()))) := fun s => s7_ok N t f s 7 3 4 9 14 (by decide) (by kernel_rfl) (by decide) (by decide) (by decide) (by decide)
  have s8 : ∀ s, chacha_Block_s7 N t g_chacha_quarters 8 f s = some (.br ((t, ()), (f, s, ()))) := fun s => by
    unfold chacha_Block_s7
    simp (disch := omega) only [dpos, dneg, w64_of, inR_of, room_of, tmod_of, cond_true, cond_false, Bool.and_self, Bool.and_true, Bool.true_and, Bool.and_false, Bool.false_and, Bool.not_true, Bool.not_false, Option.bind_some, List.length_cons, List.length_nil, Nat.zero_add]
  unfold chacha_Block_6
  rw [loopK_go (M := M + 8) hM (s0 s), loopK_go (M := M + 7) rfl (s1 _), loopK_go (M := M + 6) rfl (s2 _), loopK_go (M := M + 5) rfl (s3 _), loopK_go (M := M + 4) rfl (s4 _), loopK_go (M := M + 3) rfl (s5 _), loopK_go (M := M + 2) rfl (s6 _), loopK_go (M := M + 1) rfl (s7 _), loopK_br (M := M) rfl (s8 _)]
  unfold chacha_Block_8 dr d2 d1
  simp (disch := omega) only [dpos, dneg, w64_of, inR_of, room_of, tmod_of, cond_true, cond_false, Bool.and_self, Bool.and_true, Bool.true_and, Bool.and_false, Bool.false_and, Bool.not_true, Bool.not_false, Option.bind_some, List.length_cons, List.length_nil, Nat.zero_add]
def drs (f : List UInt32) : Nat → List UInt32
  | 0 => f
  | i + 1 => dr (drs f i)
/-- The bytes of a block. -/
def bout (f s : List UInt32) : List UInt8 := (List.range 16).flatMap fun i => let v := s.getD i 0 + f.getD i 0; [v.toUInt8, (shr32 v 8).toUInt8, (shr32 v 16).toUInt8, (shr32 v 24).toUInt8]
theorem bout_len (f s : List UInt32) : (bout f s).length = 64 := rfl
theorem bout_un (M : Nat) (s f : List UInt32) : chacha_Block_10 (M + 20) s 0 f [] = some ((true, ()), (bout f s, ())) := by kernel_rfl
theorem list12 {α : Type} {l : List α} (h : l.length = 12) : ∃ a b c d e f g i j k m n, l = [a, b, c, d, e, f, g, i, j, k, m, n] := by
  match l, h with
  | [a, b, c, d, e, f, g, i, j, k, m, n], _ => exact ⟨a, b, c, d, e, f, g, i, j, k, m, n, rfl⟩
theorem list16c {α : Type} {l : List α} (h : l.length = 16) : ∃ a b c d e f g i j k m n o p q r, l = [a, b, c, d, e, f, g, i, j, k, m, n, o, p, q, r] := by
  match l, h with
  | [a, b, c, d, e, f, g, i, j, k, m, n, o, p, q, r], _ => exact ⟨a, b, c, d, e, f, g, i, j, k, m, n, o, p, q, r, rfl⟩
def wd (l : List UInt8) (i : Nat) : UInt32 := (((l.getD (4 * i) 0).toUInt32 ||| shl32 (l.getD (4 * i + 1) 0).toUInt32 8) ||| shl32 (l.getD (4 * i + 2) 0).toUInt32 16) ||| shl32 (l.getD (4 * i + 3) 0).toUInt32 24
/-- The words at the beginning. -/
def stw (k : List UInt8) (c : UInt32) (n : List UInt8) : List UInt32 := [1634760805, 857760878, 2036477234, 1797285236, wd k 0, wd k 1, wd k 2, wd k 3, wd k 4, wd k 5, wd k 6, wd k 7, c, wd n 0, wd n 1, wd n 2]
theorem state_un (M : Nat) (c : UInt32) (k0 k1 k2 k3 k4 k5 k6 k7 k8 k9 k10 k11 k12 k13 k14 k15 k16 k17 k18 k19 k20 k21 k22 k23 k24 k25 k26 k27 k28 k29 k30 k31 n0 n1 n2 n3 n4 n5 n6 n7 n8 n9 n10 n11 : UInt8) :
    chacha_state (M + 20) [k0, k1, k2, k3, k4, k5, k6, k7, k8, k9, k10, k11, k12, k13, k14, k15, k16, k17, k18, k19, k20, k21, k22, k23, k24, k25, k26, k27, k28, k29, k30, k31] c [n0, n1, n2, n3, n4, n5, n6, n7, n8, n9, n10, n11] =
    some ((stw [k0, k1, k2, k3, k4, k5, k6, k7, k8, k9, k10, k11, k12, k13, k14, k15, k16, k17, k18, k19, k20, k21, k22, k23, k24, k25, k26, k27, k28, k29, k30, k31] c [n0, n1, n2, n3, n4, n5, n6, n7, n8, n9, n10, n11], true, ()), ()) := by kernel_rfl
theorem rstate_un (M : Nat) (c : UInt32) (k0 k1 k2 k3 k4 k5 k6 k7 k8 k9 k10 k11 k12 k13 k14 k15 k16 k17 k18 k19 k20 k21 k22 k23 k24 k25 k26 k27 k28 k29 k30 k31 n0 n1 n2 n3 n4 n5 n6 n7 n8 n9 n10 n11 : UInt8) :
    ref10_Block (M + 20) [k0, k1, k2, k3, k4, k5, k6, k7, k8, k9, k10, k11, k12, k13, k14, k15, k16, k17, k18, k19, k20, k21, k22, k23, k24, k25, k26, k27, k28, k29, k30, k31] c [n0, n1, n2, n3, n4, n5, n6, n7, n8, n9, n10, n11] =
    ref10_Block_7 (M + 20) (stw [k0, k1, k2, k3, k4, k5, k6, k7, k8, k9, k10, k11, k12, k13, k14, k15, k16, k17, k18, k19, k20, k21, k22, k23, k24, k25, k26, k27, k28, k29, k30, k31] c [n0, n1, n2, n3, n4, n5, n6, n7, n8, n9, n10, n11]) := by kernel_rfl
def cblk (k : List UInt8) (c : UInt32) (n : List UInt8) : List UInt8 := bout (stw k c n) (drs (stw k c n) 10)
theorem cblk_len (k : List UInt8) (c : UInt32) (n : List UInt8) : (cblk k c n).length = 64 := bout_len _ _
section
variable (N : Nat) (hN : 4611686018427387904 ≤ N) {k n : List UInt8} (c : UInt32) (hk : k.length = 32) (hn : n.length = 12)
include hN hk hn
theorem state_ok : chacha_state N k c n = some ((stw k c n, true, ()), ()) ∧ ref10_Block N k c n = ref10_Block_7 N (stw k c n) := by
  obtain ⟨k0, k1, k2, k3, k4, k5, k6, k7, k8, k9, k10, k11, k12, k13, k14, k15, e1⟩ := list16c (l := k.take 16) (by simp; omega)
  obtain ⟨k16, k17, k18, k19, k20, k21, k22, k23, k24, k25, k26, k27, k28, k29, k30, k31, e2⟩ := list16c (l := k.drop 16) (by simp; omega)
  obtain ⟨n0, n1, n2, n3, n4, n5, n6, n7, n8, n9, n10, n11, rfl⟩ := list12 hn
  obtain ⟨M, rfl⟩ := Nat.exists_eq_add_of_le' (show 20 ≤ N by omega)
  have e : k = [k0, k1, k2, k3, k4, k5, k6, k7, k8, k9, k10, k11, k12, k13, k14, k15, k16, k17, k18, k19, k20, k21, k22, k23, k24, k25, k26, k27, k28, k29, k30, k31] := by
    rw [← List.take_append_drop 16 k, e1, e2]; rfl
  subst e
  exact ⟨state_un M c k0 k1 k2 k3 k4 k5 k6 k7 k8 k9 k10 k11 k12 k13 k14 k15 k16 k17 k18 k19 k20 k21 k22 k23 k24 k25 k26 k27 k28 k29 k30 k31 n0 n1 n2 n3 n4 n5 n6 n7 n8 n9 n10 n11,
    rstate_un M c k0 k1 k2 k3 k4 k5 k6 k7 k8 k9 k10 k11 k12 k13 k14 k15 k16 k17 k18 k19 k20 k21 k22 k23 k24 k25 k26 k27 k28 k29 k30 k31 n0 n1 n2 n3 n4 n5 n6 n7 n8 n9 n10 n11⟩
theorem cblock_ok : chacha_Block N k c n = some ((true, ()), (cblk k c n, ())) := by
  unfold chacha_Block cblk
  rw [(state_ok N hN c hk hn).1]
  simp only [dpos, dneg, w64_of, inR_of, room_of, tmod_of, cond_true, cond_false, Bool.and_self, Bool.and_true, Bool.true_and, Bool.and_false, Bool.false_and, Bool.not_true, Bool.not_false, Option.bind_some, List.length_cons, List.length_nil, Nat.zero_add]
  generalize stw k c n = f
  unfold chacha_Block_1
  have h10N : 10 < N := by omega
  obtain ⟨M, hM⟩ := Nat.exists_eq_add_of_le' (show 20 ≤ N by omega)
  refine (loopK_run (fun i : Nat => (((i : Int), ()), (f, drs f i, ()))) (n := 10) ?_ (e := ((), (f, drs f 10, ()))) ?_ h10N).trans ?_
  · intro i hi
    show chacha_Block_s2 N (i : Int) f _ = _
    unfold chacha_Block_s2 chacha_Block_3 chacha_Block_5
    simp (disch := omega) only [dpos, dneg, w64_of, inR_of, room_of, tmod_of, cond_true, cond_false, Bool.and_self, Bool.and_true, Bool.true_and, Bool.and_false, Bool.false_and, Bool.not_true, Bool.not_false, Option.bind_some, List.length_cons, List.length_nil, Nat.zero_add, double_ok, drs, Int.natCast_add, Int.natCast_one]
  · show chacha_Block_s2 N _ f _ = _
    unfold chacha_Block_s2
    simp (disch := omega) only [dpos, dneg, w64_of, inR_of, room_of, tmod_of, cond_true, cond_false, Bool.and_self, Bool.and_true, Bool.true_and, Bool.and_false, Bool.false_and, Bool.not_true, Bool.not_false, Option.bind_some, List.length_cons, List.length_nil, Nat.zero_add]
  · generalize drs f 10 = s
    show chacha_Block_9 N f s = _
    unfold chacha_Block_9
    rw [hM, bout_un]
end
end
end Go.Proofs.YtofajgidjkjnpaaDoor.Pl

/- Plain: ChaCha20 over bytes, the program's and the reference's. -/
namespace Go.Proofs.YtofajgidjkjnpaaDoor.Pl
open Go
noncomputable section
/-- The encrypted bytes. -/
def cx (k : List UInt8) (c : UInt32) (n b : List UInt8) : List UInt8 := (List.range b.length).map fun i => b.getD i 0 ^^^ (cblk k (c + UInt32.ofNat (i / 64)) n).getD (i % 64) 0
theorem cx_len (k : List UInt8) (c : UInt32) (n b : List UInt8) : (cx k c n b).length = b.length := by simp [cx]
theorem cx_get (k : List UInt8) (c : UInt32) (n b : List UInt8) {i : Nat} (h : i < b.length) : (cx k c n b).getD i 0 = b.getD i 0 ^^^ (cblk k (c + UInt32.ofNat (i / 64)) n).getD (i % 64) 0 := by
  simp [cx, List.getD, h]
theorem cx_twice (k : List UInt8) (c : UInt32) (n b : List UInt8) : cx k c n (cx k c n b) = b := by
  apply List.ext_getElem
  · rw [cx_len, cx_len]
  · intro i h1 h2
    have e1 : (cx k c n (cx k c n b)).getD i 0 = (cx k c n (cx k c n b))[i] := by simp [List.getD, h1]
    have e2 : b.getD i 0 = b[i] := by simp [List.getD, h2]
    rw [← e1, ← e2, cx_get _ _ _ _ (by rw [cx_len]; exact h2), cx_get _ _ _ _ h2, UInt8.xor_assoc, UInt8.xor_self, UInt8.xor_zero]
def ctr (c : UInt32) : Nat → UInt32
  | 0 => c
  | i + 1 => if i % 64 = 0 then ctr c i + 1 else ctr c i
theorem ctr_val (c : UInt32) (i : Nat) : ctr c i = c + UInt32.ofNat ((i + 63) / 64) := by
  induction i with
  | zero => simp [ctr]
  | succ i ih =>
    rw [ctr]
    split
    · rename_i h
      rw [ih, show (i + 1 + 63) / 64 = (i + 63) / 64 + 1 by omega, UInt32.ofNat_add, UInt32.add_assoc]; rfl
    · rename_i h
      rw [ih, show (i + 1 + 63) / 64 = (i + 63) / 64 by omega]
def msk (k : List UInt8) (c : UInt32) (n : List UInt8) : Nat → List UInt8
  | 0 => []
  | i + 1 => cblk k (c + UInt32.ofNat (i / 64)) n
section
variable (N : Nat) (hN : 4611686018427387904 ≤ N) {k n : List UInt8} (c : UInt32) (hk : k.length = 32) (hn : n.length = 12)
include hN hk hn
theorem xor_ok {b : List UInt8} (hb : b.length ≤ 17592186044416) : chacha_Xor N k c n b = some ((true, ()), (cx k c n b, ())) := by
  unfold chacha_Xor
  rw [(state_ok N hN c hk hn).1]
  simp only [dpos, dneg, w64_of, inR_of, room_of, tmod_of, cond_true, cond_false, Bool.and_self, Bool.and_true, Bool.true_and, Bool.and_false, Bool.false_and, Bool.not_true, Bool.not_false, Option.bind_some, List.length_cons, List.length_nil, Nat.zero_add]
  unfold chacha_Xor_1
  have hT := cx_len k c n b
  have hg := fun i h => cx_get k c n b (i := i) h
  generalize cx k c n b = T at hT hg
  have hbN : b.length < N := by omega
  refine (loopK_run (fun i : Nat => ((k, ctr c i, n, b, (b.length : Int), (i : Int), ()), (T.take i, msk k c n i, ()))) (n := b.length) ?_ (e := ((), (T, ()))) ?_ hbN).trans rfl
  · intro i hi
    have hti : (T.take i).length = i := by simp; omega
    have hcl := cblk_len k (c + UInt32.ofNat (i / 64)) n
    have ht := hg i hi
    show chacha_Xor_s2 N k _ n b _ _ _ _ = _
    unfold chacha_Xor_s2
    rw [take_snoc T 0 (by omega), ht]
    have e64 : ((i : Int) % 64).toNat = i % 64 := by omega
    by_cases hm : i % 64 = 0
    · have hbl : chacha_Block N k (ctr c i) n = some ((true, ()), (cblk k (c + UInt32.ofNat (i / 64)) n, ())) := by
        rw [cblock_ok N hN _ hk hn, ctr_val, show (i + 63) / 64 = i / 64 by omega]
      simp (disch := omega) only [dpos, dneg, w64_of, inR_of, room_of, tmod_of, cond_true, cond_false, Bool.and_self, Bool.and_true, Bool.true_and, Bool.and_false, Bool.false_and, Bool.not_true, Bool.not_false, Option.bind_some, List.length_cons, List.length_nil, Nat.zero_add, Int.toNat_natCast, e64, hbl, hti, ctr, msk, if_pos, Int.natCast_add, Int.natCast_one]
    · have hms : msk k c n i = cblk k (c + UInt32.ofNat (i / 64)) n := by
        cases i with
        | zero => simp at hm
        | succ i => rw [msk, show (i + 1) / 64 = i / 64 by omega]
      rw [hms]
      simp (disch := omega) only [dpos, dneg, w64_of, inR_of, room_of, tmod_of, cond_true, cond_false, Bool.and_self, Bool.and_true, Bool.true_and, Bool.and_false, Bool.false_and, Bool.not_true, Bool.not_false, Option.bind_some, List.length_cons, List.length_nil, Nat.zero_add, Int.toNat_natCast, e64, hti, ctr, msk, if_neg, Int.natCast_add, Int.natCast_one]
  · show chacha_Xor_s2 N k _ n b _ _ _ _ = _
    unfold chacha_Xor_s2
    simp (disch := omega) only [dpos, dneg, w64_of, inR_of, room_of, tmod_of, cond_true, cond_false, Bool.and_self, Bool.and_true, Bool.true_and, Bool.and_false, Bool.false_and, Bool.not_true, Bool.not_false, Option.bind_some, List.length_cons, List.length_nil, Nat.zero_add]
    rw [List.take_of_length_le (by omega)]
end
end
end Go.Proofs.YtofajgidjkjnpaaDoor.Pl

/- Plain: the number of bytes in five limbs (poly1305.number). -/
namespace Go.Proofs.YtofajgidjkjnpaaDoor.Pl
open Go Poly
def us (l : List UInt64) : List Nat := l.map UInt64.toNat
def ns (l : List UInt8) : List Nat := l.map UInt8.toNat
theorem lo_add (a : UInt64) (x : UInt8) {k c : Nat} (hk : k ≤ 25) (hc : 2 ^ k = c) (h : a.toNat < 67108864) : (a + (shl64 x.toUInt64 k &&& 67108863)).toNat = a.toNat + x.toNat * c % 67108864 := by
  have hx : x.toNat < 256 := x.toNat_lt
  have h1 : (shl64 x.toUInt64 k).toNat = x.toNat * c := by
    show (x.toUInt64.toBitVec <<< k).toNat = _
    rw [BitVec.toNat_shiftLeft, Nat.shiftLeft_eq, hc]
    have e : x.toUInt64.toBitVec.toNat = x.toNat := UInt8.toNat_toUInt64 x
    rw [e]
    apply Nat.mod_eq_of_lt
    have : c ≤ 2 ^ 25 := by rw [← hc]; exact Nat.pow_le_pow_right (by decide) hk
    have := Nat.mul_le_mul (Nat.le_of_lt hx) this
    omega
  have h2 : (shl64 x.toUInt64 k &&& 67108863).toNat = x.toNat * c % 67108864 := by
    rw [UInt64.toNat_and, h1]
    exact Nat.and_two_pow_sub_one_eq_mod _ 26
  rw [UInt64.toNat_add, h2]
  apply Nat.mod_eq_of_lt
  omega
theorem hi_add (a : UInt64) (x : UInt8) {k c : Nat} (hc : 2 ^ k = c) (h : a.toNat < 67108864) : (a + shr64 x.toUInt64 k).toNat = a.toNat + x.toNat / c := by
  have hx : x.toNat < 256 := x.toNat_lt
  have h1 : (shr64 x.toUInt64 k).toNat = x.toNat / c := by
    show (x.toUInt64.toBitVec >>> k).toNat = _
    rw [BitVec.toNat_ushiftRight, Nat.shiftRight_eq_div_pow, hc]
    have e : x.toUInt64.toBitVec.toNat = x.toNat := UInt8.toNat_toUInt64 x
    rw [e]
  rw [UInt64.toNat_add, h1]
  have : x.toNat / c ≤ x.toNat := Nat.div_le_self ..
  apply Nat.mod_eq_of_lt
  omega
theorem low_of {bs l : List Nat} {i : Nat} (h : NInv bs l i) {j : Nat} (hj : j < 5) : l.getD j 0 < 67108864 := by
  refine Nat.lt_of_lt_of_le (h.low j hj) ?_
  unfold Poly.room
  exact Nat.pow_le_pow_right (by decide : 0 < 2) (Nat.min_le_left 26 _)
theorem list5u {l : List UInt64} (h : l.length = 5) : ∃ a b c d e, l = [a, b, c, d, e] := by
  match l, h with
  | [a, b, c, d, e], _ => exact ⟨a, b, c, d, e, rfl⟩
theorem congr5 {a b c d e a' b' c' d' e' : Nat} (h0 : a = a') (h1 : b = b') (h2 : c = c') (h3 : d = d') (h4 : e = e') : [a, b, c, d, e] = [a', b', c', d', e'] := by
  subst h0; subst h1; subst h2; subst h3; subst h4; rfl
theorem num_0 (N : Nat) (b : List UInt8) (n : Int) (t : List UInt64) (a0 a1 a2 a3 a4 : UInt64) : poly1305_number_s2 N b n 0 t [a0, a1, a2, a3, a4] = bif decide ((0 : Int) < n) then (bif inR (0 : Int) b.length then some (.go ((b, n, (1 : Int), ()), (t, [a0 + (shl64 (b.getD 0 0).toUInt64 0 &&& 67108863), a1, a2, a3, a4], ()))) else none) else some (.br ((), (t, [a0, a1, a2, a3, a4], ()))) := by kernel_rfl
theorem nus_0 {a0 a1 a2 a3 a4 : UInt64} (x : UInt8) (h0 : a0.toNat < 67108864) (h1 : a1.toNat < 67108864) (h2 : a2.toNat < 67108864) (h3 : a3.toNat < 67108864) (h4 : a4.toNat < 67108864) : us [a0 + (shl64 x.toUInt64 0 &&& 67108863), a1, a2, a3, a4] = nstep (us [a0, a1, a2, a3, a4]) 0 x.toNat :=
  (congr5 (lo_add _ _ (by decide) rfl h0) rfl rfl rfl rfl).trans (nstep_0 _ _ _ _ _ _).symm
theorem num_1 (N : Nat) (b : List UInt8) (n : Int) (t : List UInt64) (a0 a1 a2 a3 a4 : UInt64) : poly1305_number_s2 N b n 1 t [a0, a1, a2, a3, a4] = bif decide ((1 : Int) < n) then (bif inR (1 : Int) b.length then some (.go ((b, n, (2 : Int), ()), (t, [a0 + (shl64 (b.getD 1 0).toUInt64 8 &&& 67108863), a1, a2, a3, a4], ()))) else none) else some (.br ((), (t, [a0, a1, a2, a3, a4], ()))) := by kernel_rfl
theorem nus_1 {a0 a1 a2 a3 a4 : UInt64} (x : UInt8) (h0 : a0.toNat < 67108864) (h1 : a1.toNat < 67108864) (h2 : a2.toNat < 67108864) (h3 : a3.toNat < 67108864) (h4 : a4.toNat < 67108864) : us [a0 + (shl64 x.toUInt64 8 &&& 67108863), a1, a2, a3, a4] = nstep (us [a0, a1, a2, a3, a4]) 1 x.toNat :=
  (congr5 (lo_add _ _ (by decide) rfl h0) rfl rfl rfl rfl).trans (nstep_1 _ _ _ _ _ _).symm
theorem num_2 (N : Nat) (b : List UInt8) (n : Int) (t : List UInt64) (a0 a1 a2 a3 a4 : UInt64) : poly1305_number_s2 N b n 2 t [a0, a1, a2, a3, a4] = bif decide ((2 : Int) < n) then (bif inR (2 : Int) b.length then some (.go ((b, n, (3 : Int), ()), (t, [a0 + (shl64 (b.getD 2 0).toUInt64 16 &&& 67108863), a1, a2, a3, a4], ()))) else none) else some (.br ((), (t, [a0, a1, a2, a3, a4], ()))) := by kernel_rfl
theorem nus_2 {a0 a1 a2 a3 a4 : UInt64} (x : UInt8) (h0 : a0.toNat < 67108864) (h1 : a1.toNat < 67108864) (h2 : a2.toNat < 67108864) (h3 : a3.toNat < 67108864) (h4 : a4.toNat < 67108864) : us [a0 + (shl64 x.toUInt64 16 &&& 67108863), a1, a2, a3, a4] = nstep (us [a0, a1, a2, a3, a4]) 2 x.toNat :=
  (congr5 (lo_add _ _ (by decide) rfl h0) rfl rfl rfl rfl).trans (nstep_2 _ _ _ _ _ _).symm
theorem num_3 (N : Nat) (b : List UInt8) (n : Int) (t : List UInt64) (a0 a1 a2 a3 a4 : UInt64) : poly1305_number_s2 N b n 3 t [a0, a1, a2, a3, a4] = bif decide ((3 : Int) < n) then (bif inR (3 : Int) b.length then some (.go ((b, n, (4 : Int), ()), (t, [a0 + (shl64 (b.getD 3 0).toUInt64 24 &&& 67108863), a1 + shr64 (b.getD 3 0).toUInt64 2, a2, a3, a4], ()))) else none) else some (.br ((), (t, [a0, a1, a2, a3, a4], ()))) := by kernel_rfl
theorem nus_3 {a0 a1 a2 a3 a4 : UInt64} (x : UInt8) (h0 : a0.toNat < 67108864) (h1 : a1.toNat < 67108864) (h2 : a2.toNat < 67108864) (h3 : a3.toNat < 67108864) (h4 : a4.toNat < 67108864) : us [a0 + (shl64 x.toUInt64 24 &&& 67108863), a1 + shr64 x.toUInt64 2, a2, a3, a4] = nstep (us [a0, a1, a2, a3, a4]) 3 x.toNat :=
  (congr5 (lo_add _ _ (by decide) rfl h0) (hi_add _ _ rfl h1) rfl rfl rfl).trans (nstep_3 _ _ _ _ _ _).symm
theorem num_4 (N : Nat) (b : List UInt8) (n : Int) (t : List UInt64) (a0 a1 a2 a3 a4 : UInt64) : poly1305_number_s2 N b n 4 t [a0, a1, a2, a3, a4] = bif decide ((4 : Int) < n) then (bif inR (4 : Int) b.length then some (.go ((b, n, (5 : Int), ()), (t, [a0, a1 + (shl64 (b.getD 4 0).toUInt64 6 &&& 67108863), a2, a3, a4], ()))) else none) else some (.br ((), (t, [a0, a1, a2, a3, a4], ()))) := by kernel_rfl
theorem nus_4 {a0 a1 a2 a3 a4 : UInt64} (x : UInt8) (h0 : a0.toNat < 67108864) (h1 : a1.toNat < 67108864) (h2 : a2.toNat < 67108864) (h3 : a3.toNat < 67108864) (h4 : a4.toNat < 67108864) : us [a0, a1 + (shl64 x.toUInt64 6 &&& 67108863), a2, a3, a4] = nstep (us [a0, a1, a2, a3, a4]) 4 x.toNat :=
  (congr5 rfl (lo_add _ _ (by decide) rfl h1) rfl rfl rfl).trans (nstep_4 _ _ _ _ _ _).symm
theorem num_5 (N : Nat) (b : List UInt8) (n : Int) (t : List UInt64) (a0 a1 a2 a3 a4 : UInt64) : poly1305_number_s2 N b n 5 t [a0, a1, a2, a3, a4] = bif decide ((5 : Int) < n) then (bif inR (5 : Int) b.length then some (.go ((b, n, (6 : Int), ()), (t, [a0, a1 + (shl64 (b.getD 5 0).toUInt64 14 &&& 67108863), a2, a3, a4], ()))) else none) else some (.br ((), (t, [a0, a1, a2, a3, a4], ()))) := by kernel_rfl
theorem nus_5 {a0 a1 a2 a3 a4 : UInt64} (x : UInt8) (h0 : a0.toNat < 67108864) (h1 : a1.toNat < 67108864) (h2 : a2.toNat < 67108864) (h3 : a3.toNat < 67108864) (h4 : a4.toNat < 67108864) : us [a0, a1 + (shl64 x.toUInt64 14 &&& 67108863), a2, a3, a4] = nstep (us [a0, a1, a2, a3, a4]) 5 x.toNat :=
  (congr5 rfl (lo_add _ _ (by decide) rfl h1) rfl rfl rfl).trans (nstep_5 _ _ _ _ _ _).symm
theorem num_6 (N : Nat) (b : List UInt8) (n : Int) (t : List UInt64) (a0 a1 a2 a3 a4 : UInt64) : poly1305_number_s2 N b n 6 t [a0, a1, a2, a3, a4] = bif decide ((6 : Int) < n) then (bif inR (6 : Int) b.length then some (.go ((b, n, (7 : Int), ()), (t, [a0, a1 + (shl64 (b.getD 6 0).toUInt64 22 &&& 67108863), a2 + shr64 (b.getD 6 0).toUInt64 4, a3, a4], ()))) else none) else some (.br ((), (t, [a0, a1, a2, a3, a4], ()))) := by kernel_rfl
theorem nus_6 {a0 a1 a2 a3 a4 : UInt64} (x : UInt8) (h0 : a0.toNat < 67108864) (h1 : a1.toNat < 67108864) (h2 : a2.toNat < 67108864) (h3 : a3.toNat < 67108864) (h4 : a4.toNat < 67108864) : us [a0, a1 + (shl64 x.toUInt64 22 &&& 67108863), a2 + shr64 x.toUInt64 4, a3, a4] = nstep (us [a0, a1, a2, a3, a4]) 6 x.toNat :=
  (congr5 rfl (lo_add _ _ (by decide) rfl h1) (hi_add _ _ rfl h2) rfl rfl).trans (nstep_6 _ _ _ _ _ _).symm
theorem num_7 (N : Nat) (b : List UInt8) (n : Int) (t : List UInt64) (a0 a1 a2 a3 a4 : UInt64) : poly1305_number_s2 N b n 7 t [a0, a1, a2, a3, a4] = bif decide ((7 : Int) < n) then (bif inR (7 : Int) b.length then some (.go ((b, n, (8 : Int), ()), (t, [a0, a1, a2 + (shl64 (b.getD 7 0).toUInt64 4 &&& 67108863), a3, a4], ()))) else none) else some (.br ((), (t, [a0, a1, a2, a3, a4], ()))) := by kernel_rfl
theorem nus_7 {a0 a1 a2 a3 a4 : UInt64} (x : UInt8) (h0 : a0.toNat < 67108864) (h1 : a1.toNat < 67108864) (h2 : a2.toNat < 67108864) (h3 : a3.toNat < 67108864) (h4 : a4.toNat < 67108864) : us [a0, a1, a2 + (shl64 x.toUInt64 4 &&& 67108863), a3, a4] = nstep (us [a0, a1, a2, a3, a4]) 7 x.toNat :=
  (congr5 rfl rfl (lo_add _ _ (by decide) rfl h2) rfl rfl).trans (nstep_7 _ _ _ _ _ _).symm
theorem num_8 (N : Nat) (b : List UInt8) (n : Int) (t : List UInt64) (a0 a1 a2 a3 a4 : UInt64) : poly1305_number_s2 N b n 8 t [a0, a1, a2, a3, a4] = bif decide ((8 : Int) < n) then (bif inR (8 : Int) b.length then some (.go ((b, n, (9 : Int), ()), (t, [a0, a1, a2 + (shl64 (b.getD 8 0).toUInt64 12 &&& 67108863), a3, a4], ()))) else none) else some (.br ((), (t, [a0, a1, a2, a3, a4], ()))) := by kernel_rfl
theorem nus_8 {a0 a1 a2 a3 a4 : UInt64} (x : UInt8) (h0 : a0.toNat < 67108864) (h1 : a1.toNat < 67108864) (h2 : a2.toNat < 67108864) (h3 : a3.toNat < 67108864) (h4 : a4.toNat < 67108864) : us [a0, a1, a2 + (shl64 x.toUInt64 12 &&& 67108863), a3, a4] = nstep (us [a0, a1, a2, a3, a4]) 8 x.toNat :=
  (congr5 rfl rfl (lo_add _ _ (by decide) rfl h2) rfl rfl).trans (nstep_8 _ _ _ _ _ _).symm
theorem num_9 (N : Nat) (b : List UInt8) (n : Int) (t : List UInt64) (a0 a1 a2 a3 a4 : UInt64) : poly1305_number_s2 N b n 9 t [a0, a1, a2, a3, a4] = bif decide ((9 : Int) < n) then (bif inR (9 : Int) b.length then some (.go ((b, n, (10 : Int), ()), (t, [a0, a1, a2 + (shl64 (b.getD 9 0).toUInt64 20 &&& 67108863), a3 + shr64 (b.getD 9 0).toUInt64 6, a4], ()))) else none) else some (.br ((), (t, [a0, a1, a2, a3, a4], ()))) := by kernel_rfl
theorem nus_9 {a0 a1 a2 a3 a4 : UInt64} (x : UInt8) (h0 : a0.toNat < 67108864) (h1 : a1.toNat < 67108864) (h2 : a2.toNat < 67108864) (h3 : a3.toNat < 67108864) (h4 : a4.toNat < 67108864) : us [a0, a1, a2 + (shl64 x.toUInt64 20 &&& 67108863), a3 + shr64 x.toUInt64 6, a4] = nstep (us [a0, a1, a2, a3, a4]) 9 x.toNat :=
  (congr5 rfl rfl (lo_add _ _ (by decide) rfl h2) (hi_add _ _ rfl h3) rfl).trans (nstep_9 _ _ _ _ _ _).symm
theorem num_10 (N : Nat) (b : List UInt8) (n : Int) (t : List UInt64) (a0 a1 a2 a3 a4 : UInt64) : poly1305_number_s2 N b n 10 t [a0, a1, a2, a3, a4] = bif decide ((10 : Int) < n) then (bif inR (10 : Int) b.length then some (.go ((b, n, (11 : Int), ()), (t, [a0, a1, a2, a3 + (shl64 (b.getD 10 0).toUInt64 2 &&& 67108863), a4], ()))) else none) else some (.br ((), (t, [a0, a1, a2, a3, a4], ()))) := by kernel_rfl
theorem nus_10 {a0 a1 a2 a3 a4 : UInt64} (x : UInt8) (h0 : a0.toNat < 67108864) (h1 : a1.toNat < 67108864) (h2 : a2.toNat < 67108864) (h3 : a3.toNat < 67108864) (h4 : a4.toNat < 67108864) : us [a0, a1, a2, a3 + (shl64 x.toUInt64 2 &&& 67108863), a4] = nstep (us [a0, a1, a2, a3, a4]) 10 x.toNat :=
  (congr5 rfl rfl rfl (lo_add _ _ (by decide) rfl h3) rfl).trans (nstep_10 _ _ _ _ _ _).symm
theorem num_11 (N : Nat) (b : List UInt8) (n : Int) (t : List UInt64) (a0 a1 a2 a3 a4 : UInt64) : poly1305_number_s2 N b n 11 t [a0, a1, a2, a3, a4] = bif decide ((11 : Int) < n) then (bif inR (11 : Int) b.length then some (.go ((b, n, (12 : Int), ()), (t, [a0, a1, a2, a3 + (shl64 (b.getD 11 0).toUInt64 10 &&& 67108863), a4], ()))) else none) else some (.br ((), (t, [a0, a1, a2, a3, a4], ()))) := by kernel_rfl
theorem nus_11 {a0 a1 a2 a3 a4 : UInt64} (x : UInt8) (h0 : a0.toNat < 67108864) (h1 : a1.toNat < 67108864) (h2 : a2.toNat < 67108864) (h3 : a3.toNat < 67108864) (h4 : a4.toNat < 67108864) : us [a0, a1, a2, a3 + (shl64 x.toUInt64 10 &&& 67108863), a4] = nstep (us [a0, a1, a2, a3, a4]) 11 x.toNat :=
  (congr5 rfl rfl rfl (lo_add _ _ (by decide) rfl h3) rfl).trans (nstep_11 _ _ _ _ _ _).symm
theorem num_12 (N : Nat) (b : List UInt8) (n : Int) (t : List UInt64) (a0 a1 a2 a3 a4 : UInt64) : poly1305_number_s2 N b n 12 t [a0, a1, a2, a3, a4] = bif decide ((12 : Int) < n) then (bif inR (12 : Int) b.length then some (.go ((b, n, (13 : Int), ()), (t, [a0, a1, a2, a3 + (shl64 (b.getD 12 0).toUInt64 18 &&& 67108863), a4], ()))) else none) else some (.br ((), (t, [a0, a1, a2, a3, a4], ()))) := by kernel_rfl
theorem nus_12 {a0 a1 a2 a3 a4 : UInt64} (x : UInt8) (h0 : a0.toNat < 67108864) (h1 : a1.toNat < 67108864) (h2 : a2.toNat < 67108864) (h3 : a3.toNat < 67108864) (h4 : a4.toNat < 67108864) : us [a0, a1, a2, a3 + (shl64 x.toUInt64 18 &&& 67108863), a4] = nstep (us [a0, a1, a2, a3, a4]) 12 x.toNat :=
  (congr5 rfl rfl rfl (lo_add _ _ (by decide) rfl h3) rfl).trans (nstep_12 _ _ _ _ _ _).symm
theorem num_13 (N : Nat) (b : List UInt8) (n : Int) (t : List UInt64) (a0 a1 a2 a3 a4 : UInt64) : poly1305_number_s2 N b n 13 t [a0, a1, a2, a3, a4] = bif decide ((13 : Int) < n) then (bif inR (13 : Int) b.length then some (.go ((b, n, (14 : Int), ()), (t, [a0, a1, a2, a3, a4 + (shl64 (b.getD 13 0).toUInt64 0 &&& 67108863)], ()))) else none) else some (.br ((), (t, [a0, a1, a2, a3, a4], ()))) := by kernel_rfl
theorem nus_13 {a0 a1 a2 a3 a4 : UInt64} (x : UInt8) (h0 : a0.toNat < 67108864) (h1 : a1.toNat < 67108864) (h2 : a2.toNat < 67108864) (h3 : a3.toNat < 67108864) (h4 : a4.toNat < 67108864) : us [a0, a1, a2, a3, a4 + (shl64 x.toUInt64 0 &&& 67108863)] = nstep (us [a0, a1, a2, a3, a4]) 13 x.toNat :=
  (congr5 rfl rfl rfl rfl (lo_add _ _ (by decide) rfl h4)).trans (nstep_13 _ _ _ _ _ _).symm
theorem num_14 (N : Nat) (b : List UInt8) (n : Int) (t : List UInt64) (a0 a1 a2 a3 a4 : UInt64) : poly1305_number_s2 N b n 14 t [a0, a1, a2, a3, a4] = bif decide ((14 : Int) < n) then (bif inR (14 : Int) b.length then some (.go ((b, n, (15 : Int), ()), (t, [a0, a1, a2, a3, a4 + (shl64 (b.getD 14 0).toUInt64 8 &&& 67108863)], ()))) else none) else some (.br ((), (t, [a0, a1, a2, a3, a4], ()))) := by kernel_rfl
theorem nus_14 {a0 a1 a2 a3 a4 : UInt64} (x : UInt8) (h0 : a0.toNat < 67108864) (h1 : a1.toNat < 67108864) (h2 : a2.toNat < 67108864) (h3 : a3.toNat < 67108864) (h4 : a4.toNat < 67108864) : us [a0, a1, a2, a3, a4 + (shl64 x.toUInt64 8 &&& 67108863)] = nstep (us [a0, a1, a2, a3, a4]) 14 x.toNat :=
  (congr5 rfl rfl rfl rfl (lo_add _ _ (by decide) rfl h4)).trans (nstep_14 _ _ _ _ _ _).symm
theorem num_15 (N : Nat) (b : List UInt8) (n : Int) (t : List UInt64) (a0 a1 a2 a3 a4 : UInt64) : poly1305_number_s2 N b n 15 t [a0, a1, a2, a3, a4] = bif decide ((15 : Int) < n) then (bif inR (15 : Int) b.length then some (.go ((b, n, (16 : Int), ()), (t, [a0, a1, a2, a3, a4 + (shl64 (b.getD 15 0).toUInt64 16 &&& 67108863)], ()))) else none) else some (.br ((), (t, [a0, a1, a2, a3, a4], ()))) := by kernel_rfl
theorem nus_15 {a0 a1 a2 a3 a4 : UInt64} (x : UInt8) (h0 : a0.toNat < 67108864) (h1 : a1.toNat < 67108864) (h2 : a2.toNat < 67108864) (h3 : a3.toNat < 67108864) (h4 : a4.toNat < 67108864) : us [a0, a1, a2, a3, a4 + (shl64 x.toUInt64 16 &&& 67108863)] = nstep (us [a0, a1, a2, a3, a4]) 15 x.toNat :=
  (congr5 rfl rfl rfl rfl (lo_add _ _ (by decide) rfl h4)).trans (nstep_15 _ _ _ _ _ _).symm
theorem num_16 (N : Nat) (b : List UInt8) (n : Int) (t : List UInt64) (a0 a1 a2 a3 a4 : UInt64) : poly1305_number_s2 N b n 16 t [a0, a1, a2, a3, a4] = bif decide ((16 : Int) < n) then (bif inR (16 : Int) b.length then some (.go ((b, n, (17 : Int), ()), (t, [a0, a1, a2, a3, a4 + (shl64 (b.getD 16 0).toUInt64 24 &&& 67108863)], ()))) else none) else some (.br ((), (t, [a0, a1, a2, a3, a4], ()))) := by kernel_rfl
theorem nus_16 {a0 a1 a2 a3 a4 : UInt64} (x : UInt8) (h0 : a0.toNat < 67108864) (h1 : a1.toNat < 67108864) (h2 : a2.toNat < 67108864) (h3 : a3.toNat < 67108864) (h4 : a4.toNat < 67108864) : us [a0, a1, a2, a3, a4 + (shl64 x.toUInt64 24 &&& 67108863)] = nstep (us [a0, a1, a2, a3, a4]) 16 x.toNat :=
  (congr5 rfl rfl rfl rfl (lo_add _ _ (by decide) rfl h4)).trans (nstep_16 _ _ _ _ _ _).symm
theorem num_step (N : Nat) {b : List UInt8} {l : List UInt64} (t : List UInt64) {i : Nat} (h : NInv (ns b) (us l) i) (hi : i < 17) (hb : i < b.length) (h16 : i = 16 → (b.getD i 0).toNat ≤ 3) :
    ∃ l', poly1305_number_s2 N b (b.length : Int) (i : Int) t l = some (.go ((b, (b.length : Int), ((i + 1 : Nat) : Int), ()), (t, l', ()))) ∧ NInv (ns b) (us l') (i + 1) := by
  have hlen : l.length = 5 := by have := h.len; simpa [us] using this
  have hx : (ns b).getD i 0 = (b.getD i 0).toNat := by simp [ns, List.getD, hb]
  have hs := h.step hi (by simpa [ns] using hb) (by rw [hx]; exact (b.getD i 0).toNat_lt) (by rw [hx]; exact h16)
  rw [hx] at hs
  have l0 := low_of h (j := 0) (by omega); have l1 := low_of h (j := 1) (by omega); have l2 := low_of h (j := 2) (by omega); have l3 := low_of h (j := 3) (by omega); have l4 := low_of h (j := 4) (by omega)
  obtain ⟨a0, a1, a2, a3, a4, rfl⟩ := list5u hlen
  have hd : decide ((i : Int) < (b.length : Int)) = true := dpos (by omega)
  have hr : inR (i : Int) b.length = true := inR_of (by omega) (by omega)
  rcases (by omega : i = 0 ∨ i = 1 ∨ i = 2 ∨ i = 3 ∨ i = 4 ∨ i = 5 ∨ i = 6 ∨ i = 7 ∨ i = 8 ∨ i = 9 ∨ i = 10 ∨ i = 11 ∨ i = 12 ∨ i = 13 ∨ i = 14 ∨ i = 15 ∨ i = 16) with rfl | rfl | rfl | rfl | rfl | rfl | rfl | rfl | rfl | rfl | rfl | rfl | rfl | rfl | rfl | rfl | rfl
  · exact ⟨_, (num_0 N b _ t a0 a1 a2 a3 a4).trans (by rw [show decide ((0 : Int) < (b.length : Int)) = true from hd, show inR (0 : Int) b.length = true from hr]; rfl), by rw [nus_0 _ l0 l1 l2 l3 l4]; exact hs⟩
  · exact ⟨_, (num_1 N b _ t a0 a1 a2 a3 a4).trans (by rw [show decide ((1 : Int) < (b.length : Int)) = true from hd, show inR (1 : Int) b.length = true from hr]; rfl), by rw [nus_1 _ l0 l1 l2 l3 l4]; exact hs⟩
  · exact ⟨_, (num_2 N b _ t a0 a1 a2 a3 a4).trans (by rw [show decide ((2 : Int) < (b.length : Int)) = true from hd, show inR (2 : Int) b.length = true from hr]; rfl), by rw [nus_2 _ l0 l1 l2 l3 l4]; exact hs⟩
  · exact ⟨_, (num_3 N b _ t a0 a1 a2 a3 a4).trans (by rw [show decide ((3 : Int) < (b.length : Int)) = true from hd, show inR (3 : Int) b.length = true from hr]; rfl), by rw [nus_3 _ l0 l1 l2 l3 l4]; exact hs⟩
  · exact ⟨_, (num_4 N b _ t a0 a1 a2 a3 a4).trans (by rw [show decide ((4 : Int) < (b.length : Int)) = true from hd, show inR (4 : Int) b.length = true from hr]; rfl), by rw [nus_4 _ l0 l1 l2 l3 l4]; exact hs⟩
  · exact ⟨_, (num_5 N b _ t a0 a1 a2 a3 a4).trans (by rw [show decide ((5 : Int) < (b.length : Int)) = true from hd, show inR (5 : Int) b.length = true from hr]; rfl), by rw [nus_5 _ l0 l1 l2 l3 l4]; exact hs⟩
  · exact ⟨_, (num_6 N b _ t a0 a1 a2 a3 a4).trans (by rw [show decide ((6 : Int) < (b.length : Int)) = true from hd, show inR (6 : Int) b.length = true from hr]; rfl), by rw [nus_6 _ l0 l1 l2 l3 l4]; exact hs⟩
  · exact ⟨_, (num_7 N b _ t a0 a1 a2 a3 a4).trans (by rw [show decide ((7 : Int) < (b.length : Int)) = true from hd, show inR (7 : Int) b.length = true from hr]; rfl), by rw [nus_7 _ l0 l1 l2 l3 l4]; exact hs⟩
  · exact ⟨_, (num_8 N b _ t a0 a1 a2 a3 a4).trans (by rw [show decide ((8 : Int) < (b.length : Int)) = true from hd, show inR (8 : Int) b.length = true from hr]; rfl), by rw [nus_8 _ l0 l1 l2 l3 l4]; exact hs⟩
  · exact ⟨_, (num_9 N b _ t a0 a1 a2 a3 a4).trans (by rw [show decide ((9 : Int) < (b.length : Int)) = true from hd, show inR (9 : Int) b.length = true from hr]; rfl), by rw [nus_9 _ l0 l1 l2 l3 l4]; exact hs⟩
  · exact ⟨_, (num_10 N b _ t a0 a1 a2 a3 a4).trans (by rw [show decide ((10 : Int) < (b.length : Int)) = true from hd, show inR (10 : Int) b.length = true from hr]; rfl), by rw [nus_10 _ l0 l1 l2 l3 l4]; exact hs⟩
  · exact ⟨_, (num_11 N b _ t a0 a1 a2 a3 a4).trans (by rw [show decide ((11 : Int) < (b.length : Int)) = true from hd, show inR (11 : Int) b.length = true from hr]; rfl), by rw [nus_11 _ l0 l1 l2 l3 l4]; exact hs⟩
  · exact ⟨_, (num_12 N b _ t a0 a1 a2 a3 a4).trans (by rw [show decide ((12 : Int) < (b.length : Int)) = true from hd, show inR (12 : Int) b.length = true from hr]; rfl), by rw [nus_12 _ l0 l1 l2 l3 l4]; exact hs⟩
  · exact ⟨_, (num_13 N b _ t a0 a1 a2 a3 a4).trans (by rw [show decide ((13 : Int) < (b.length : Int)) = true from hd, show inR (13 : Int) b.length = true from hr]; rfl), by rw [nus_13 _ l0 l1 l2 l3 l4]; exact hs⟩
  · exact ⟨_, (num_14 N b _ t a0 a1 a2 a3 a4).trans (by rw [show decide ((14 : Int) < (b.length : Int)) = true from hd, show inR (14 : Int) b.length = true from hr]; rfl), by rw [nus_14 _ l0 l1 l2 l3 l4]; exact hs⟩
  · exact ⟨_, (num_15 N b _ t a0 a1 a2 a3 a4).trans (by rw [show decide ((15 : Int) < (b.length : Int)) = true from hd, show inR (15 : Int) b.length = true from hr]; rfl), by rw [nus_15 _ l0 l1 l2 l3 l4]; exact hs⟩
  · exact ⟨_, (num_16 N b _ t a0 a1 a2 a3 a4).trans (by rw [show decide ((16 : Int) < (b.length : Int)) = true from hd, show inR (16 : Int) b.length = true from hr]; rfl), by rw [nus_16 _ l0 l1 l2 l3 l4]; exact hs⟩
/-- The number of at most 17 bytes. -/
theorem number_ok (N : Nat) {b : List UInt8} (hb : b.length ≤ 17) (h16 : 16 < b.length → (b.getD 16 0).toNat ≤ 3) (hN : 4611686018427387904 ≤ N) :
    ∃ l, poly1305_number N b = some ((l, ()), ()) ∧ Le 67108863 (us l) ∧ v5 (us l) = le (ns b) := by
  unfold poly1305_number poly1305_number_1
  have := loopK_of (N := N) (step := fun y => poly1305_number_s2 N y.1.1 y.1.2.1 y.1.2.2.1 y.2.1 y.2.2.1) (J := fun (e : ((Unit) × ((List UInt64) × (List UInt64) × Unit))) => poly1305_number_3 N e.2.1 e.2.2.1)
    (I := fun y => ∃ i : Nat, y = ((b, (b.length : Int), (i : Int), ()), (List.replicate 5 0, y.2.2.1, ())) ∧ i ≤ b.length ∧ NInv (ns b) (us y.2.2.1) i) (μ := fun y => ((b.length : Int) - y.1.2.2.1).toNat)
    (T := fun r => ∃ l, r = ((l, ()), ()) ∧ Le 67108863 (us l) ∧ v5 (us l) = le (ns b)) ?_
    (x := ((b, (b.length : Int), 0, ()), (List.replicate 5 0, List.replicate 5 0, ()))) ⟨0, rfl, by omega, NInv.start _⟩ (by simp; omega)
  · obtain ⟨r, h1, l, rfl, h2, h3⟩ := this
    exact ⟨l, h1, h2, h3⟩
  · rintro ⟨⟨b', n, j, _⟩, ⟨t, l, _⟩⟩ ⟨i, h1, h2, h3⟩
    simp only [Prod.mk.injEq] at h1
    obtain ⟨⟨rfl, rfl, rfl, _⟩, rfl, _⟩ := h1
    simp only at h3 ⊢
    by_cases hi : i < b'.length
    · obtain ⟨l', e, h4⟩ := num_step N (List.replicate 5 0) h3 (by omega) hi (fun e => by subst e; exact h16 hi)
      exact ⟨_, e, ⟨i + 1, rfl, by omega, h4⟩, by simp only; omega⟩
    · have e : i = b'.length := by omega
      subst e
      refine ⟨.br ((), (List.replicate 5 0, l, ())), ?_, _, rfl, l, rfl, ⟨h3.len, fun j hj => by have := low_of h3 hj; omega⟩, ?_⟩
      · unfold poly1305_number_s2
        simp (disch := omega) only [dneg, cond_false]
      · rw [h3.val, List.take_of_length_le (by simp [ns])]
end Go.Proofs.YtofajgidjkjnpaaDoor.Pl

/- Plain: the limbs of Poly1305: carry, sum, product, the number below the modulus. -/
namespace Go.Proofs.YtofajgidjkjnpaaDoor.Pl
open Go Poly
/-- A round of carry. -/
def cr : List UInt64 → List UInt64
  | [a, b, c, d, e] =>
    [((a + 0) &&& 67108863) + 5 * shr64 (e + shr64 (d + shr64 (c + shr64 (b + shr64 (a + 0) 26) 26) 26) 26) 26, (b + shr64 (a + 0) 26) &&& 67108863, (c + shr64 (b + shr64 (a + 0) 26) 26) &&& 67108863,
      (d + shr64 (c + shr64 (b + shr64 (a + 0) 26) 26) 26) &&& 67108863, (e + shr64 (d + shr64 (c + shr64 (b + shr64 (a + 0) 26) 26) 26) 26) &&& 67108863]
  | l => l
theorem carry_un (M : Nat) (a b c d e : UInt64) : poly1305_limbs_carry (M + 20) [a, b, c, d, e] = some ((cr (cr [a, b, c, d, e]), ()), ()) := by kernel_rfl
theorem add_un (M : Nat) (a b c d e a' b' c' d' e' : UInt64) : poly1305_limbs_add (M + 20) [a, b, c, d, e] [a', b', c', d', e'] = some ((cr (cr [a + a', b + b', c + c', d + d', e + e']), ()), ()) := by kernel_rfl
theorem mul_un (M : Nat) (a0 a1 a2 a3 a4 b0 b1 b2 b3 b4 : UInt64) : poly1305_limbs_mul (M + 20) [a0, a1, a2, a3, a4] [b0, b1, b2, b3, b4] =
    some ((cr (cr [0 + a0 * b0 + a1 * b4 * 5 + a2 * b3 * 5 + a3 * b2 * 5 + a4 * b1 * 5, 0 + a0 * b1 + a1 * b0 + a2 * b4 * 5 + a3 * b3 * 5 + a4 * b2 * 5, 0 + a0 * b2 + a1 * b1 + a2 * b0 + a3 * b4 * 5 + a4 * b3 * 5,
      0 + a0 * b3 + a1 * b2 + a2 * b1 + a3 * b0 + a4 * b4 * 5, 0 + a0 * b4 + a1 * b3 + a2 * b2 + a3 * b1 + a4 * b0]), ()), ()) := by kernel_rfl
/-- A carry that stops at the last limb. -/
def cq : List UInt64 → List UInt64
  | [a, b, c, d, e] => [a &&& 67108863, (b + shr64 a 26) &&& 67108863, (c + shr64 (b + shr64 a 26) 26) &&& 67108863, (d + shr64 (c + shr64 (b + shr64 a 26) 26) 26) &&& 67108863, e + shr64 (d + shr64 (c + shr64 (b + shr64 a 26) 26) 26) 26]
  | l => l
theorem red_un (M : Nat) (a b c d e : UInt64) (l t : List UInt64) : poly1305_limbs_reduced_1 (M + 20) 0 l t [a, b, c, d, e] = bif decide (shr64 ((cq [a, b, c, d, e]).getD 4 0) 26 = 0) then some ((l, ()), ()) else some (((cq [a, b, c, d, e]).set 4 ((cq [a, b, c, d, e]).getD 4 0 &&& 67108863), ()), ()) := by kernel_rfl

theorem shr26 (x : UInt64) : (shr64 x 26).toNat = x.toNat / 67108864 := by
  show (x.toBitVec >>> 26).toNat = _
  rw [BitVec.toNat_ushiftRight, Nat.shiftRight_eq_div_pow]; rfl
theorem and26 (x : UInt64) : (x &&& 67108863).toNat = x.toNat % 67108864 := by
  rw [UInt64.toNat_and]; exact Nat.and_two_pow_sub_one_eq_mod _ 26
theorem addN {x y : UInt64} (h : x.toNat + y.toNat < 18446744073709551616) : (x + y).toNat = x.toNat + y.toNat := by
  rw [UInt64.toNat_add]; exact Nat.mod_eq_of_lt h
theorem mulN {x y : UInt64} (h : x.toNat * y.toNat < 18446744073709551616) : (x * y).toNat = x.toNat * y.toNat := by
  rw [UInt64.toNat_mul]; exact Nat.mod_eq_of_lt h
theorem cr_us {l : List UInt64} (h : Le 4611686018427387904 (us l)) : us (cr l) = rnd (us l) := by
  have h0 := h.2 0 (by omega); have h1 := h.2 1 (by omega); have h2 := h.2 2 (by omega); have h3 := h.2 3 (by omega); have h4 := h.2 4 (by omega)
  obtain ⟨a, b, c, d, e, rfl⟩ := list5u (by simpa [us] using h.1)
  simp only [us, List.map_cons, List.map_nil, List.getD_cons_zero, List.getD_cons_succ] at h0 h1 h2 h3 h4
  have e0 : (a + 0).toNat = a.toNat + 0 := addN (by show a.toNat + 0 < _; omega)
  have e1 : (b + shr64 (a + 0) 26).toNat = b.toNat + (a.toNat + 0) / 67108864 := by rw [addN (by rw [shr26, e0]; omega), shr26, e0]
  have e2 : (c + shr64 (b + shr64 (a + 0) 26) 26).toNat = c.toNat + (b.toNat + (a.toNat + 0) / 67108864) / 67108864 := by rw [addN (by rw [shr26, e1]; omega), shr26, e1]
  have e3 : (d + shr64 (c + shr64 (b + shr64 (a + 0) 26) 26) 26).toNat = d.toNat + (c.toNat + (b.toNat + (a.toNat + 0) / 67108864) / 67108864) / 67108864 := by rw [addN (by rw [shr26, e2]; omega), shr26, e2]
  have e4 : (e + shr64 (d + shr64 (c + shr64 (b + shr64 (a + 0) 26) 26) 26) 26).toNat = e.toNat + (d.toNat + (c.toNat + (b.toNat + (a.toNat + 0) / 67108864) / 67108864) / 67108864) / 67108864 := by rw [addN (by rw [shr26, e3]; omega), shr26, e3]
  refine Eq.trans ?_ (rnd_five _ _ _ _ _).symm
  refine congr5 ?_ ?_ ?_ ?_ ?_
  · have e5 : (5 * shr64 (e + shr64 (d + shr64 (c + shr64 (b + shr64 (a + 0) 26) 26) 26) 26) 26).toNat = 5 * ((e.toNat + (d.toNat + (c.toNat + (b.toNat + (a.toNat + 0) / 67108864) / 67108864) / 67108864) / 67108864) / 67108864) := by
      have q : (5 : UInt64).toNat = 5 := rfl
      rw [mulN (by rw [q, shr26, e4]; omega), q, shr26, e4]
    rw [addN (by rw [and26, e5, e0]; omega), and26, e5, e0]
  · rw [and26, e1]
  · rw [and26, e2]
  · rw [and26, e3]
  · rw [and26, e4]
theorem rp_inv {r : Nat} {l : List Nat} (hb : Poly.Bd r l) : ∀ j, j ≤ 5 → CInv r l (rp j l).1 j (rp j l).2 := by
  intro j
  induction j with
  | zero => intro _; exact CInv.start hb
  | succ j ih => intro hj; exact (CInv.step hb (ih (by omega)) (by omega)).1
theorem rnd_bd {r : Nat} {l : List Nat} (hb : Poly.Bd r l) (hr : r < 2) : Poly.Bd (r + 1) (rnd l) ∧ v5 (rnd l) % pp = v5 l % pp := by
  have h := (rp_inv hb 5 (Nat.le_refl 5)).done hr
  exact ⟨h.1, h.2.1⟩
theorem bd_le {r : Nat} {l : List Nat} (h : Poly.Bd r l) : Le 4611686018427387904 l := ⟨h.len, h.all⟩
/-- Two rounds. -/
theorem cr2 {l : List UInt64} (h : Le 4611686018427387904 (us l)) : Poly.Bd 2 (us (cr (cr l))) ∧ v5 (us (cr (cr l))) % pp = v5 (us l) % pp := by
  have h1 := rnd_bd h.bd (by omega)
  rw [← cr_us h] at h1
  have h2 := rnd_bd h1.1 (by omega)
  rw [← cr_us (bd_le h1.1)] at h2
  exact ⟨h2.1, h2.2.trans h1.2⟩
def mst (a b l : List Nat) (i k : Nat) : List Nat := l.set ((i + k) % 5) (l.getD ((i + k) % 5) 0 + mterm a b i k)
/-- What one limb of the first factor adds. -/
def mrow (a b l : List Nat) (i : Nat) : List Nat := mst a b (mst a b (mst a b (mst a b (mst a b l i 0) i 1) i 2) i 3) i 4
theorem prod_bd {x y : UInt64} (hx : x.toNat ≤ 67108868) (hy : y.toNat ≤ 67108868) : (x * y).toNat = x.toNat * y.toNat ∧ x.toNat * y.toNat ≤ 4503600164241424 := by
  have := Nat.mul_le_mul hx hy
  exact ⟨mulN (by omega), by omega⟩
theorem prod5 {x y : UInt64} (hx : x.toNat ≤ 67108868) (hy : y.toNat ≤ 67108868) : (x * y * 5).toNat = x.toNat * y.toNat * 5 := by
  have h := prod_bd hx hy
  have q : (5 : UInt64).toNat = 5 := rfl
  rw [mulN (by rw [h.1, q]; omega), h.1, q]
theorem mrow_ok {a b l : List Nat} {i : Nat} (ha : Le 67108868 a) (hb : Le 67108868 b) (h : MInv a b l i 0) (hi : i < 5) : MInv a b (mrow a b l i) (i + 1) 0 :=
  ((h.step ha hb hi (by omega)).1.step ha hb hi (by omega)).1 |>.step ha hb hi (by omega) |>.1.step ha hb hi (by omega) |>.1.step ha hb hi (by omega) |>.1.next
section
variable (N : Nat) (hN : 4611686018427387904 ≤ N)
include hN
theorem carry_ok {l : List UInt64} (h : Le 4611686018427387904 (us l)) : ∃ l', poly1305_limbs_carry N l = some ((l', ()), ()) ∧ Poly.Bd 2 (us l') ∧ v5 (us l') % pp = v5 (us l) % pp ∧ us l' = rnd (rnd (us l)) := by
  obtain ⟨M, rfl⟩ := Nat.exists_eq_add_of_le' (show 20 ≤ N by omega)
  obtain ⟨a, b, c, d, e, rfl⟩ := list5u (by simpa [us] using h.1)
  have h1 := rnd_bd h.bd (by omega)
  refine ⟨_, carry_un M a b c d e, (cr2 h).1, (cr2 h).2, ?_⟩
  rw [cr_us (l := cr [a, b, c, d, e]) (by rw [cr_us h]; exact bd_le h1.1), cr_us h]
theorem add_ok {l m : List UInt64} (hl : Le 67108868 (us l)) (hm : Le 67108863 (us m)) : ∃ l', poly1305_limbs_add N l m = some ((l', ()), ()) ∧ Le 67108868 (us l') ∧ v5 (us l') % pp = (v5 (us l) + v5 (us m)) % pp := by
  obtain ⟨M, rfl⟩ := Nat.exists_eq_add_of_le' (show 20 ≤ N by omega)
  have h0 := hl.2 0 (by omega); have h1 := hl.2 1 (by omega); have h2 := hl.2 2 (by omega); have h3 := hl.2 3 (by omega); have h4 := hl.2 4 (by omega)
  have k0 := hm.2 0 (by omega); have k1 := hm.2 1 (by omega); have k2 := hm.2 2 (by omega); have k3 := hm.2 3 (by omega); have k4 := hm.2 4 (by omega)
  obtain ⟨a, b, c, d, f, rfl⟩ := list5u (by simpa [us] using hl.1)
  obtain ⟨a', b', c', d', e', rfl⟩ := list5u (by simpa [us] using hm.1)
  simp only [us, List.map_cons, List.map_nil, List.getD_cons_zero, List.getD_cons_succ] at h0 h1 h2 h3 h4 k0 k1 k2 k3 k4
  have e : us [a + a', b + b', c + c', d + d', f + e'] = [a.toNat + a'.toNat, b.toNat + b'.toNat, c.toNat + c'.toNat, d.toNat + d'.toNat, f.toNat + e'.toNat] :=
    congr5 (addN (by omega)) (addN (by omega)) (addN (by omega)) (addN (by omega)) (addN (by omega))
  have hle : Le 4611686018427387904 (us [a + a', b + b', c + c', d + d', f + e']) := by rw [e]; apply le5 <;> omega
  have h := cr2 hle
  refine ⟨_, add_un M a b c d f a' b' c' d' e', h.1.le, h.2.trans ?_⟩
  rw [e]
  simp only [us, List.map_cons, List.map_nil, v5, List.getD_cons_zero, List.getD_cons_succ]
  congr 1
  omega
theorem mul_ok {l m : List UInt64} (hl : Le 67108868 (us l)) (hm : Le 67108868 (us m)) : ∃ l', poly1305_limbs_mul N l m = some ((l', ()), ()) ∧ Le 67108868 (us l') ∧ v5 (us l') % pp = v5 (us l) * v5 (us m) % pp := by
  obtain ⟨M, rfl⟩ := Nat.exists_eq_add_of_le' (show 20 ≤ N by omega)
  have h0 := hl.2 0 (by omega); have h1 := hl.2 1 (by omega); have h2 := hl.2 2 (by omega); have h3 := hl.2 3 (by omega); have h4 := hl.2 4 (by omega)
  have k0 := hm.2 0 (by omega); have k1 := hm.2 1 (by omega); have k2 := hm.2 2 (by omega); have k3 := hm.2 3 (by omega); have k4 := hm.2 4 (by omega)
  obtain ⟨a0, a1, a2, a3, a4, rfl⟩ := list5u (by simpa [us] using hl.1)
  obtain ⟨b0, b1, b2, b3, b4, rfl⟩ := list5u (by simpa [us] using hm.1)
  simp only [us, List.map_cons, List.map_nil, List.getD_cons_zero, List.getD_cons_succ] at h0 h1 h2 h3 h4 k0 k1 k2 k3 k4
  have z0 : (0 : UInt64).toNat = 0 := rfl
  have p00 := prod_bd h0 k0
  have p01 := prod_bd h0 k1
  have p02 := prod_bd h0 k2
  have p03 := prod_bd h0 k3
  have p04 := prod_bd h0 k4
  have p10 := prod_bd h1 k0
  have p11 := prod_bd h1 k1
  have p12 := prod_bd h1 k2
  have p13 := prod_bd h1 k3
  have p14 := prod_bd h1 k4
  have q14 := prod5 h1 k4
  have p20 := prod_bd h2 k0
  have p21 := prod_bd h2 k1
  have p22 := prod_bd h2 k2
  have p23 := prod_bd h2 k3
  have q23 := prod5 h2 k3
  have p24 := prod_bd h2 k4
  have q24 := prod5 h2 k4
  have p30 := prod_bd h3 k0
  have p31 := prod_bd h3 k1
  have p32 := prod_bd h3 k2
  have q32 := prod5 h3 k2
  have p33 := prod_bd h3 k3
  have q33 := prod5 h3 k3
  have p34 := prod_bd h3 k4
  have q34 := prod5 h3 k4
  have p40 := prod_bd h4 k0
  have p41 := prod_bd h4 k1
  have q41 := prod5 h4 k1
  have p42 := prod_bd h4 k2
  have q42 := prod5 h4 k2
  have p43 := prod_bd h4 k3
  have q43 := prod5 h4 k3
  have p44 := prod_bd h4 k4
  have q44 := prod5 h4 k4
  have s00 : (0 + a0 * b0 : UInt64).toNat = 0 + a0.toNat * b0.toNat := by rw [addN (by rw [z0, p00.1]; omega), z0, p00.1]
  have s01 : (0 + a0 * b0 + a1 * b4 * 5 : UInt64).toNat = 0 + a0.toNat * b0.toNat + a1.toNat * b4.toNat * 5 := by rw [addN (by rw [s00, q14]; omega), s00, q14]
  have s02 : (0 + a0 * b0 + a1 * b4 * 5 + a2 * b3 * 5 : UInt64).toNat = 0 + a0.toNat * b0.toNat + a1.toNat * b4.toNat * 5 + a2.toNat * b3.toNat * 5 := by rw [addN (by rw [s01, q23]; omega), s01, q23]
  have s03 : (0 + a0 * b0 + a1 * b4 * 5 + a2 * b3 * 5 + a3 * b2 * 5 : UInt64).toNat = 0 + a0.toNat * b0.toNat + a1.toNat * b4.toNat * 5 + a2.toNat * b3.toNat * 5 + a3.toNat * b2.toNat * 5 := by rw [addN (by rw [s02, q32]; omega), s02, q32]
  have s04 : (0 + a0 * b0 + a1 * b4 * 5 + a2 * b3 * 5 + a3 * b2 * 5 + a4 * b1 * 5 : UInt64).toNat = 0 + a0.toNat * b0.toNat + a1.toNat * b4.toNat * 5 + a2.toNat * b3.toNat * 5 + a3.toNat * b2.toNat * 5 + a4.toNat * b1.toNat * 5 := by rw [addN (by rw [s03, q41]; omega), s03, q41]
  have s10 : (0 + a0 * b1 : UInt64).toNat = 0 + a0.toNat * b1.toNat := by rw [addN (by rw [z0, p01.1]; omega), z0, p01.1]
  have s11 : (0 + a0 * b1 + a1 * b0 : UInt64).toNat = 0 + a0.toNat * b1.toNat + a1.toNat * b0.toNat := by rw [addN (by rw [s10, p10.1]; omega), s10, p10.1]
  have s12 : (0 + a0 * b1 + a1 * b0 + a2 * b4 * 5 : UInt64).toNat = 0 + a0.toNat * b1.toNat + a1.toNat * b0.toNat + a2.toNat * b4.toNat * 5 := by rw [addN (by rw [s11, q24]; omega), s11, q24]
  have s13 : (0 + a0 * b1 + a1 * b0 + a2 * b4 * 5 + a3 * b3 * 5 : UInt64).toNat = 0 + a0.toNat * b1.toNat + a1.toNat * b0.toNat + a2.toNat * b4.toNat * 5 + a3.toNat * b3.toNat * 5 := by rw [addN (by rw [s12, q33]; omega), s12, q33]
  have s14 : (0 + a0 * b1 + a1 * b0 + a2 * b4 * 5 + a3 * b3 * 5 + a4 * b2 * 5 : UInt64).toNat = 0 + a0.toNat * b1.toNat + a1.toNat * b0.toNat + a2.toNat * b4.toNat * 5 + a3.toNat * b3.toNat * 5 + a4.toNat * b2.toNat * 5 := by rw [addN (by rw [s13, q42]; omega), s13, q42]
  have s20 : (0 + a0 * b2 : UInt64).toNat = 0 + a0.toNat * b2.toNat := by rw [addN (by rw [z0, p02.1]; omega), z0, p02.1]
  have s21 : (0 + a0 * b2 + a1 * b1 : UInt64).toNat = 0 + a0.toNat * b2.toNat + a1.toNat * b1.toNat := by rw [addN (by rw [s20, p11.1]; omega), s20, p11.1]
  have s22 : (0 + a0 * b2 + a1 * b1 + a2 * b0 : UInt64).toNat = 0 + a0.toNat * b2.toNat + a1.toNat * b1.toNat + a2.toNat * b0.toNat := by rw [addN (by rw [s21, p20.1]; omega), s21, p20.1]
  have s23 : (0 + a0 * b2 + a1 * b1 + a2 * b0 + a3 * b4 * 5 : UInt64).toNat = 0 + a0.toNat * b2.toNat + a1.toNat * b1.toNat + a2.toNat * b0.toNat + a3.toNat * b4.toNat * 5 := by rw [addN (by rw [s22, q34]; omega), s22, q34]
  have s24 : (0 + a0 * b2 + a1 * b1 + a2 * b0 + a3 * b4 * 5 + a4 * b3 * 5 : UInt64).toNat = 0 + a0.toNat * b2.toNat + a1.toNat * b1.toNat + a2.toNat * b0.toNat + a3.toNat * b4.toNat * 5 + a4.toNat * b3.toNat * 5 := by rw [addN (by rw [s23, q43]; omega), s23, q43]
  have s30 : (0 + a0 * b3 : UInt64).toNat = 0 + a0.toNat * b3.toNat := by rw [addN (by rw [z0, p03.1]; omega), z0, p03.1]
  have s31 : (0 + a0 * b3 + a1 * b2 : UInt64).toNat = 0 + a0.toNat * b3.toNat + a1.toNat * b2.toNat := by rw [addN (by rw [s30, p12.1]; omega), s30, p12.1]
  have s32 : (0 + a0 * b3 + a1 * b2 + a2 * b1 : UInt64).toNat = 0 + a0.toNat * b3.toNat + a1.toNat * b2.toNat + a2.toNat * b1.toNat := by rw [addN (by rw [s31, p21.1]; omega), s31, p21.1]
  have s33 : (0 + a0 * b3 + a1 * b2 + a2 * b1 + a3 * b0 : UInt64).toNat = 0 + a0.toNat * b3.toNat + a1.toNat * b2.toNat + a2.toNat * b1.toNat + a3.toNat * b0.toNat := by rw [addN (by rw [s32, p30.1]; omega), s32, p30.1]
  have s34 : (0 + a0 * b3 + a1 * b2 + a2 * b1 + a3 * b0 + a4 * b4 * 5 : UInt64).toNat = 0 + a0.toNat * b3.toNat + a1.toNat * b2.toNat + a2.toNat * b1.toNat + a3.toNat * b0.toNat + a4.toNat * b4.toNat * 5 := by rw [addN (by rw [s33, q44]; omega), s33, q44]
  have s40 : (0 + a0 * b4 : UInt64).toNat = 0 + a0.toNat * b4.toNat := by rw [addN (by rw [z0, p04.1]; omega), z0, p04.1]
  have s41 : (0 + a0 * b4 + a1 * b3 : UInt64).toNat = 0 + a0.toNat * b4.toNat + a1.toNat * b3.toNat := by rw [addN (by rw [s40, p13.1]; omega), s40, p13.1]
  have s42 : (0 + a0 * b4 + a1 * b3 + a2 * b2 : UInt64).toNat = 0 + a0.toNat * b4.toNat + a1.toNat * b3.toNat + a2.toNat * b2.toNat := by rw [addN (by rw [s41, p22.1]; omega), s41, p22.1]
  have s43 : (0 + a0 * b4 + a1 * b3 + a2 * b2 + a3 * b1 : UInt64).toNat = 0 + a0.toNat * b4.toNat + a1.toNat * b3.toNat + a2.toNat * b2.toNat + a3.toNat * b1.toNat := by rw [addN (by rw [s42, p31.1]; omega), s42, p31.1]
  have s44 : (0 + a0 * b4 + a1 * b3 + a2 * b2 + a3 * b1 + a4 * b0 : UInt64).toNat = 0 + a0.toNat * b4.toNat + a1.toNat * b3.toNat + a2.toNat * b2.toNat + a3.toNat * b1.toNat + a4.toNat * b0.toNat := by rw [addN (by rw [s43, p40.1]; omega), s43, p40.1]
  have eo : us [0 + a0 * b0 + a1 * b4 * 5 + a2 * b3 * 5 + a3 * b2 * 5 + a4 * b1 * 5, 0 + a0 * b1 + a1 * b0 + a2 * b4 * 5 + a3 * b3 * 5 + a4 * b2 * 5, 0 + a0 * b2 + a1 * b1 + a2 * b0 + a3 * b4 * 5 + a4 * b3 * 5, 0 + a0 * b3 + a1 * b2 + a2 * b1 + a3 * b0 + a4 * b4 * 5, 0 + a0 * b4 + a1 * b3 + a2 * b2 + a3 * b1 + a4 * b0] = [0 + a0.toNat * b0.toNat + a1.toNat * b4.toNat * 5 + a2.toNat * b3.toNat * 5 + a3.toNat * b2.toNat * 5 + a4.toNat * b1.toNat * 5, 0 + a0.toNat * b1.toNat + a1.toNat * b0.toNat + a2.toNat * b4.toNat * 5 + a3.toNat * b3.toNat * 5 + a4.toNat * b2.toNat * 5, 0 + a0.toNat * b2.toNat + a1.toNat * b1.toNat + a2.toNat * b0.toNat + a3.toNat * b4.toNat * 5 + a4.toNat * b3.toNat * 5, 0 + a0.toNat * b3.toNat + a1.toNat * b2.toNat + a2.toNat * b1.toNat + a3.toNat * b0.toNat + a4.toNat * b4.toNat * 5, 0 + a0.toNat * b4.toNat + a1.toNat * b3.toNat + a2.toNat * b2.toNat + a3.toNat * b1.toNat + a4.toNat * b0.toNat] := congr5 s04 s14 s24 s34 s44
  have hm5 := mrow_ok hl hm (mrow_ok hl hm (mrow_ok hl hm (mrow_ok hl hm (mrow_ok hl hm (MInv.start _ _) (by omega)) (by omega)) (by omega)) (by omega)) (by omega)
  have hd := hm5.done
  have em : us [0 + a0 * b0 + a1 * b4 * 5 + a2 * b3 * 5 + a3 * b2 * 5 + a4 * b1 * 5, 0 + a0 * b1 + a1 * b0 + a2 * b4 * 5 + a3 * b3 * 5 + a4 * b2 * 5, 0 + a0 * b2 + a1 * b1 + a2 * b0 + a3 * b4 * 5 + a4 * b3 * 5, 0 + a0 * b3 + a1 * b2 + a2 * b1 + a3 * b0 + a4 * b4 * 5, 0 + a0 * b4 + a1 * b3 + a2 * b2 + a3 * b1 + a4 * b0] = mrow (us [a0, a1, a2, a3, a4]) (us [b0, b1, b2, b3, b4]) (mrow (us [a0, a1, a2, a3, a4]) (us [b0, b1, b2, b3, b4]) (mrow (us [a0, a1, a2, a3, a4]) (us [b0, b1, b2, b3, b4]) (mrow (us [a0, a1, a2, a3, a4]) (us [b0, b1, b2, b3, b4]) (mrow (us [a0, a1, a2, a3, a4]) (us [b0, b1, b2, b3, b4]) [0, 0, 0, 0, 0] 0) 1) 2) 3) 4 := by
    rw [eo]
    simp [mrow, mst, mterm, us]
  rw [← em] at hd
  have h := cr2 hd.1
  exact ⟨_, mul_un M a0 a1 a2 a3 a4 b0 b1 b2 b3 b4, h.1.le, h.2.trans hd.2⟩
end
end Go.Proofs.YtofajgidjkjnpaaDoor.Pl

/- Plain: the tag of Poly1305 (poly1305.Sum) as a number. -/
namespace Go.Proofs.YtofajgidjkjnpaaDoor.Pl
open Go Poly
noncomputable section
theorem cq_us {l : List UInt64} (h : Le 1073741824 (us l)) : us (cq l) = rq 4 (us l) := by
  have h0 := h.2 0 (by omega); have h1 := h.2 1 (by omega); have h2 := h.2 2 (by omega); have h3 := h.2 3 (by omega); have h4 := h.2 4 (by omega)
  obtain ⟨a, b, c, d, e, rfl⟩ := list5u (by simpa [us] using h.1)
  simp only [us, List.map_cons, List.map_nil, List.getD_cons_zero, List.getD_cons_succ] at h0 h1 h2 h3 h4
  have e1 : (b + shr64 a 26).toNat = b.toNat + a.toNat / 67108864 := by rw [addN (by rw [shr26]; omega), shr26]
  have e2 : (c + shr64 (b + shr64 a 26) 26).toNat = c.toNat + (b.toNat + a.toNat / 67108864) / 67108864 := by rw [addN (by rw [shr26, e1]; omega), shr26, e1]
  have e3 : (d + shr64 (c + shr64 (b + shr64 a 26) 26) 26).toNat = d.toNat + (c.toNat + (b.toNat + a.toNat / 67108864) / 67108864) / 67108864 := by rw [addN (by rw [shr26, e2]; omega), shr26, e2]
  have e4 : (e + shr64 (d + shr64 (c + shr64 (b + shr64 a 26) 26) 26) 26).toNat = e.toNat + (d.toNat + (c.toNat + (b.toNat + a.toNat / 67108864) / 67108864) / 67108864) / 67108864 := by rw [addN (by rw [shr26, e3]; omega), shr26, e3]
  exact (congr5 (and26 _) (by rw [and26, e1]) (by rw [and26, e2]) (by rw [and26, e3]) e4).trans (rq_four _ _ _ _ _).symm
theorem reduced_ok (N : Nat) (hN : 4611686018427387904 ≤ N) {l : List UInt64} (h : Le 67108868 (us l)) : ∃ l', poly1305_limbs_reduced N l = some ((l', ()), ()) ∧ Le 67108863 (us l') ∧ v5 (us l') = v5 (us l) % pp := by
  obtain ⟨l1, e1, b1, v1, _⟩ := carry_ok N hN (h.mono (by decide))
  obtain ⟨l2, e2, b2, v2, u2⟩ := carry_ok N hN (bd_le b1)
  have hlow : Le 67108863 (us l2) := by rw [u2]; exact rnd2_low b1
  have hv : v5 (us l2) % pp = v5 (us l) % pp := v2.trans v1
  unfold poly1305_limbs_reduced
  simp only [e1, e2, Option.bind_some]
  have hl := hlow
  have h0 := hlow.2 0 (by omega); have h1 := hlow.2 1 (by omega); have h2 := hlow.2 2 (by omega); have h3 := hlow.2 3 (by omega); have h4 := hlow.2 4 (by omega)
  obtain ⟨a, b, c, d, e, rfl⟩ := list5u (by simpa [us] using hlow.1)
  simp only [us, List.map_cons, List.map_nil, List.getD_cons_zero, List.getD_cons_succ] at h0 h1 h2 h3 h4
  obtain ⟨M, rfl⟩ := Nat.exists_eq_add_of_le' (show 20 ≤ N by omega)
  have h5 : us [a + 5, b, c, d, e] = (us [a, b, c, d, e]).set 0 ((us [a, b, c, d, e]).getD 0 0 + 5) :=
    congr5 (addN (by show a.toNat + 5 < _; omega)) rfl rfl rfl rfl
  have h5l : Le 1073741824 (us [a + 5, b, c, d, e]) := by
    rw [h5]; show Le 1073741824 [a.toNat + 5, b.toNat, c.toNat, d.toNat, e.toNat]
    apply le5 <;> omega
  have hq := cq_us h5l
  rw [h5] at hq
  show ∃ l', poly1305_limbs_reduced_1 (M + 20) 0 [a, b, c, d, e] _ [a + 5, b, c, d, e] = _ ∧ _
  rw [red_un]
  obtain ⟨q0, q1, q2, q3, q4, hq5⟩ : ∃ q0 q1 q2 q3 q4, cq [a + 5, b, c, d, e] = [q0, q1, q2, q3, q4] := ⟨_, _, _, _, _, rfl⟩
  rw [hq5] at hq ⊢
  have hg : ((us [a, b, c, d, e]).set 0 ((us [a, b, c, d, e]).getD 0 0 + 5)) = ((us [a, b, c, d, e]).set 0 ((us [a, b, c, d, e]).getD 0 0 + 5)) := rfl
  have g4 : (rq 4 ((us [a, b, c, d, e]).set 0 ((us [a, b, c, d, e]).getD 0 0 + 5))).getD 4 0 = q4.toNat := by rw [← hq]; rfl
  have hz : shr64 q4 26 = 0 ↔ q4.toNat / 67108864 = 0 := by
    rw [← shr26]
    constructor
    · intro e; rw [e]; rfl
    · intro e; exact UInt64.toNat_inj.1 e
  simp only [List.getD_cons_zero, List.getD_cons_succ]
  by_cases hc : shr64 q4 26 = 0
  · rw [dpos hc]
    exact ⟨_, rfl, hl, by rw [← hv]; exact (red_no hl (by rw [g4]; exact hz.1 hc)).symm⟩
  · rw [dneg hc]
    have hy := red_yes hl (by rw [g4]; exact fun e => hc (hz.2 e))
    refine ⟨_, rfl, ?_⟩
    have e6 : us ([q0, q1, q2, q3, q4].set 4 (q4 &&& 67108863)) = (rq 4 ((us [a, b, c, d, e]).set 0 ((us [a, b, c, d, e]).getD 0 0 + 5))).set 4 ((rq 4 ((us [a, b, c, d, e]).set 0 ((us [a, b, c, d, e]).getD 0 0 + 5))).getD 4 0 % 67108864) := by
      rw [g4, ← hq]
      exact congr5 rfl rfl rfl rfl (and26 _)
    rw [e6]
    exact ⟨hy.1, by rw [← hv]; exact hy.2.symm⟩
theorem list16 {α : Type} {l : List α} (h : l.length = 16) : ∃ a b c d e f g i j k m n o p q r, l = [a, b, c, d, e, f, g, i, j, k, m, n, o, p, q, r] := by
  match l, h with
  | [a, b, c, d, e, f, g, i, j, k, m, n, o, p, q, r], _ => exact ⟨a, b, c, d, e, f, g, i, j, k, m, n, o, p, q, r, rfl⟩
/-- The first half of a key, some of its bits cleared. -/
def clm : List UInt8 → List UInt8
  | [a, b, c, d, e, f, g, i, j, k, m, n, o, p, q, r] => [a, b, c, d &&& 15, e &&& 252, f, g, i &&& 15, j &&& 252, k, m, n &&& 15, o &&& 252, p, q, r &&& 15]
  | l => l
theorem clamp_un (M : Nat) (a b c d e f g i j k m n o p q r : UInt8) : poly1305_clamp (M + 20) [a, b, c, d, e, f, g, i, j, k, m, n, o, p, q, r] = some ((), (clm [a, b, c, d, e, f, g, i, j, k, m, n, o, p, q, r], ())) := by kernel_rfl
theorem clm_len {l : List UInt8} (h : l.length = 16) : (clm l).length = 16 := by
  obtain ⟨a, b, c, d, e, f, g, i, j, k, m, n, o, p, q, r, rfl⟩ := list16 h; rfl
/-- The byte k that the program takes off the limbs. -/
def ob (l : List UInt64) (k : Nat) : UInt8 :=
  if 18 < 8 * k % 26 then (shr64 (l.getD (8 * k / 26) 0) (8 * k % 26) ||| shl64 (l.getD (8 * k / 26 + 1) 0) (26 - 8 * k % 26)).toUInt8 else (shr64 (l.getD (8 * k / 26) 0) (8 * k % 26)).toUInt8
theorem out_un (M : Nat) (a b c d e a' b' c' d' e' : UInt64) : poly1305_Sum_4 (M + 20) 0 [a, b, c, d, e] [a', b', c', d', e'] = some ((true, ()), ((List.range 16).map (ob (cq [a + a', b + b', c + c', d + d', e + e'])), ())) := by kernel_rfl
theorem ob_val {l : List UInt64} (hl : l.length = 5) (hlow : ∀ i, i < 4 → (us l).getD i 0 ≤ 67108863) (h4 : (us l).getD 4 0 ≤ 2147483648) {k : Nat} (hk : k < 16) : (ob l k).toNat = v5 (us l) / 256 ^ k % 256 := by
  rw [← outb_val (by simpa [us] using hl) hlow hk]
  have hg : ∀ j, (l.getD j 0).toNat = (us l).getD j 0 := fun j => by
    simp only [us, List.getD, List.getElem?_map]
    cases l[j]? <;> rfl
  have hs : ∀ (x : UInt64) (m : Nat), (shr64 x m).toNat = x.toNat / 2 ^ m := fun x m => by
    show (x.toBitVec >>> m).toNat = _
    rw [BitVec.toNat_ushiftRight, Nat.shiftRight_eq_div_pow]; rfl
  unfold ob outb
  split
  · rename_i h18
    have hj : 8 * k / 26 < 4 := by omega
    have hj' : 8 * k / 26 + 1 ≤ 4 := by omega
    have hx := hlow (8 * k / 26) hj
    have hy : (us l).getD (8 * k / 26 + 1) 0 ≤ 2147483648 := by
      rcases (by omega : 8 * k / 26 + 1 < 4 ∨ 8 * k / 26 + 1 = 4) with h | h
      · exact Nat.le_trans (hlow _ h) (by decide)
      · rw [h]; exact h4
    have h26 : 8 * k % 26 < 26 := Nat.mod_lt _ (by decide)
    generalize hm : 8 * k % 26 = m at *
    generalize 8 * k / 26 = j at *
    rw [UInt64.toNat_toUInt8, UInt64.toNat_or, hs, hg]
    have hsl : (shl64 (l.getD (j + 1) 0) (26 - m)).toNat = (us l).getD (j + 1) 0 <<< (26 - m) := by
      show ((l.getD (j + 1) 0).toBitVec <<< (26 - m)).toNat = _
      rw [BitVec.toNat_shiftLeft]
      have e : (l.getD (j + 1) 0).toBitVec.toNat = (us l).getD (j + 1) 0 := hg _
      rw [e, Nat.mod_eq_of_lt]
      rw [Nat.shiftLeft_eq]
      have : 2 ^ (26 - m) ≤ 2 ^ 8 := Nat.pow_le_pow_right (by decide) (by omega)
      have := Nat.mul_le_mul hy this
      omega
    have hlt : (us l).getD j 0 / 2 ^ m < 2 ^ (26 - m) := by
      rw [Nat.div_lt_iff_lt_mul (Nat.two_pow_pos m), ← Nat.pow_add, show 26 - m + m = 26 by omega]
      omega
    rw [hsl, Nat.or_comm, ← Nat.shiftLeft_add_eq_or_of_lt hlt, Nat.shiftLeft_eq, Nat.add_comm]
  · rw [UInt64.toNat_toUInt8, hs, hg, Nat.add_zero]
/-- The low 16 bytes of a number. -/
def tagB (v : Nat) : List UInt8 := (List.range 16).map fun k => UInt8.ofNat (v / 256 ^ k % 256)
theorem tagB_len (v : Nat) : (tagB v).length = 16 := by simp [tagB]
def kr (key : List UInt8) : Nat := le (ns (clm (key.take 16)))
def ks (key : List UInt8) : Nat := le (ns (key.drop 16))
/-- The tag. -/
def tag (key b : List UInt8) : List UInt8 := tagB (acc (kr key) 0 b + ks key)
theorem tag_len (key b : List UInt8) : (tag key b).length = 16 := tagB_len _
theorem sum_out (N : Nat) (hN : 4611686018427387904 ≤ N) {v s : List UInt64} (hv : Le 67108863 (us v)) (hs : Le 67108863 (us s)) : poly1305_Sum_4 N 0 v s = some ((true, ()), (tagB (v5 (us v) + v5 (us s)), ())) := by
  obtain ⟨M, rfl⟩ := Nat.exists_eq_add_of_le' (show 20 ≤ N by omega)
  have h0 := hv.2 0 (by omega); have h1 := hv.2 1 (by omega); have h2 := hv.2 2 (by omega); have h3 := hv.2 3 (by omega); have h4 := hv.2 4 (by omega)
  have k0 := hs.2 0 (by omega); have k1 := hs.2 1 (by omega); have k2 := hs.2 2 (by omega); have k3 := hs.2 3 (by omega); have k4 := hs.2 4 (by omega)
  obtain ⟨a, b, c, d, f, rfl⟩ := list5u (by simpa [us] using hv.1)
  obtain ⟨a', b', c', d', f', rfl⟩ := list5u (by simpa [us] using hs.1)
  simp only [us, List.map_cons, List.map_nil, List.getD_cons_zero, List.getD_cons_succ] at h0 h1 h2 h3 h4 k0 k1 k2 k3 k4
  have e : us [a + a', b + b', c + c', d + d', f + f'] = [a.toNat + a'.toNat, b.toNat + b'.toNat, c.toNat + c'.toNat, d.toNat + d'.toNat, f.toNat + f'.toNat] :=
    congr5 (addN (by omega)) (addN (by omega)) (addN (by omega)) (addN (by omega)) (addN (by omega))
  have hle : Le 1073741824 (us [a + a', b + b', c + c', d + d', f + f']) := by rw [e]; apply le5 <;> omega
  have hq := cq_us hle
  have hd := rq_done hle.1
  have hr4 := (rq_le hle (k := 4) (by omega)).2 4 (by omega)
  rw [← hq] at hd hr4
  rw [out_un]
  have hval : v5 (us (cq [a + a', b + b', c + c', d + d', f + f'])) = v5 (us [a, b, c, d, f]) + v5 (us [a', b', c', d', f']) := by
    rw [hd.1, e]
    simp only [us, List.map_cons, List.map_nil, v5, List.getD_cons_zero, List.getD_cons_succ]
    omega
  congr 3
  unfold tagB
  apply List.map_congr_left
  intro k hk
  rw [List.mem_range] at hk
  have := ob_val rfl hd.2 hr4 hk (l := cq [a + a', b + b', c + c', d + d', f + f'])
  rw [hval] at this
  rw [← this]
  exact (UInt8.ofNat_toNat).symm
theorem sum_ok (N : Nat) (hN : 4611686018427387904 ≤ N) {key b : List UInt8} (hk : key.length = 32) (hb : b.length ≤ 9223372036854775807) (hbN : b.length < N) : poly1305_Sum N key b = some ((true, ()), (tag key b, ())) := by
  unfold poly1305_Sum
  have hc : cut key 0 16 = key.take 16 := by simp [cut]
  have hc2 : cut key 16 key.length = key.drop 16 := by simp [cut]
  have ht : (key.take 16).length = 16 := by simp; omega
  have hcl : poly1305_clamp N (key.take 16) = some ((), (clm (key.take 16), ())) := by
    obtain ⟨a, b, c, d, e, f, g, i, j, k, m, n, o, p, q, r, e1⟩ := list16 ht
    obtain ⟨M, rfl⟩ := Nat.exists_eq_add_of_le' (show 20 ≤ N by omega)
    rw [e1]; exact clamp_un M a b c d e f g i j k m n o p q r
  have hcm := clm_len ht
  obtain ⟨r, er, rl, rv⟩ := number_ok N (b := clm (key.take 16)) (by omega) (by omega) hN
  obtain ⟨s, es, sl, sv⟩ := number_ok N (b := key.drop 16) (by simp; omega) (by simp; omega) hN
  simp (disch := omega) only [dpos, dneg, w64_of, inR_of, room_of, tmod_of, cond_true, cond_false, Bool.and_self, Bool.and_true, Bool.true_and, Bool.and_false, Bool.false_and, Bool.not_true, Bool.not_false, Option.bind_some, List.length_cons, List.length_nil, Nat.zero_add, hc, hcl, er]
  unfold poly1305_Sum_1
  have hz : acc (kr key) (v5 (us (List.replicate 5 0)) % pp) b = acc (kr key) 0 b := by
    have e : v5 (us (List.replicate 5 0)) = 0 := by decide
    rw [e, Nat.zero_mod]
  have := loopK_of (N := N) (step := fun y => poly1305_Sum_s2 N y.1.1 y.1.2.1 y.2.1 y.2.2.1) (J := fun (e : (((List UInt8) × Unit) × ((List UInt64) × Unit))) => poly1305_Sum_3 N e.1.1 e.2.1)
    (I := fun y => y.1.1 = key ∧ y.2.1 = r ∧ Le 67108868 (us y.2.2.1) ∧ y.1.2.1.length ≤ 9223372036854775807 ∧ acc (kr key) (v5 (us y.2.2.1) % pp) y.1.2.1 = acc (kr key) 0 b) (μ := fun y => y.1.2.1.length)
    (T := fun x => x = ((true, ()), (tag key b, ()))) ?_
    (x := ((key, b, ()), (r, List.replicate 5 0, ()))) ⟨rfl, rfl, ⟨rfl, fun i hi => by
      rcases (by omega : i = 0 ∨ i = 1 ∨ i = 2 ∨ i = 3 ∨ i = 4) with rfl | rfl | rfl | rfl | rfl <;> exact Nat.zero_le _⟩, hb, hz⟩ (by simp only; omega)
  · obtain ⟨x, h1, rfl⟩ := this
    exact h1
  · rintro ⟨⟨key', l, _⟩, ⟨r', v, _⟩⟩ ⟨h1, h2, h3, h4, h5⟩
    simp only at h1 h2 h3 h4 h5
    subst h1; subst h2
    show ∃ o, poly1305_Sum_s2 N key' l r' v = some o ∧ _
    unfold poly1305_Sum_s2
    by_cases hl : l = []
    · subst hl
      simp (disch := omega) only [dpos, dneg, w64_of, inR_of, room_of, tmod_of, cond_true, cond_false, Bool.and_self, Bool.and_true, Bool.true_and, Bool.and_false, Bool.false_and, Bool.not_true, Bool.not_false, Option.bind_some, List.length_cons, List.length_nil, Nat.zero_add]
      refine ⟨_, rfl, _, ?_, rfl⟩
      show poly1305_Sum_3 N key' v = _
      unfold poly1305_Sum_3
      obtain ⟨w, e1, w1, w2⟩ := reduced_ok N hN h3
      simp (disch := omega) only [dpos, dneg, w64_of, inR_of, room_of, tmod_of, cond_true, cond_false, Bool.and_self, Bool.and_true, Bool.true_and, Bool.and_false, Bool.false_and, Bool.not_true, Bool.not_false, Option.bind_some, List.length_cons, List.length_nil, Nat.zero_add, e1, hc2, es]
      rw [sum_out N hN w1 sl, w2, sv, acc_nil] at *
      rw [h5]
      rfl
    · have hp : 0 < l.length := List.length_pos_iff.2 hl
      have hx : (bif decide ((l.length : Int) < 16) then (l.length : Int) else 16) = ((min 16 l.length : Nat) : Int) := by
        by_cases h : (l.length : Int) < 16
        · rw [dpos h, cond_true]; omega
        · rw [dneg h, cond_false]; omega
      have hcut : cut l 0 (min 16 l.length) = l.take 16 := by
        unfold cut
        rw [List.drop_zero]
        by_cases h : l.length ≤ 16
        · rw [Nat.min_eq_right h, List.take_of_length_le h, List.take_of_length_le (Nat.le_refl _)]
        · rw [Nat.min_eq_left (by omega)]
      have hcut2 : cut l (min 16 l.length) l.length = l.drop 16 := by
        unfold cut
        rw [List.take_of_length_le (Nat.le_refl _)]
        by_cases h : l.length ≤ 16
        · rw [Nat.min_eq_right h, List.drop_of_length_le h, List.drop_of_length_le (Nat.le_refl _)]
        · rw [Nat.min_eq_left (by omega)]
      have htl : (l.take 16).length ≤ 16 := by simp; omega
      have hnl : (l.take 16 ++ [1]).length ≤ 17 := by simp; omega
      obtain ⟨p, ep, p1, p2⟩ := number_ok N (b := l.take 16 ++ [1]) hnl (fun h => by
        have : (l.take 16).length = 16 := by simp at h; simp; omega
        rw [List.getD, List.getElem?_append_right (by omega), this]
        decide) hN
      obtain ⟨v1, e1, a1, a2⟩ := add_ok N hN h3 p1
      obtain ⟨v2, e2, b1, b2⟩ := mul_ok N hN a1 (rl.mono (by decide))
      simp (disch := omega) only [dpos, dneg, w64_of, inR_of, room_of, tmod_of, cond_true, cond_false, Bool.and_self, Bool.and_true, Bool.true_and, Bool.and_false, Bool.false_and, Bool.not_true, Bool.not_false, Option.bind_some, List.length_cons, List.length_nil, Nat.zero_add, hx, Int.toNat_natCast, hcut, hcut2, ep, e1, e2]
      refine ⟨_, rfl, ⟨rfl, rfl, b1, by simp; omega, ?_⟩, by simp; omega⟩
      simp only
      rw [← h5, acc_step _ _ hl]
      congr 1
      have hn : ns (l.take 16 ++ [1]) = (l.take 16).map UInt8.toNat ++ [1] := by simp [ns]
      rw [b2, Nat.mul_mod, a2, p2, rv, hn, ← Nat.mul_mod, Nat.mul_mod (v5 (us v) % pp + _), Nat.mod_add_mod, ← Nat.mul_mod]
      rfl
end
end Go.Proofs.YtofajgidjkjnpaaDoor.Pl

/- Plain: the reference's Poly1305: digits, their carry and their product. -/
namespace Go.Proofs.YtofajgidjkjnpaaDoor.Pl
open Go Poly
noncomputable section
/-- A round of carry, a digit being carried in. -/
def rcg (u : UInt32) : List UInt32 → List UInt32 × UInt32
  | [] => ([], u)
  | [x] => ([(u + x) &&& 3], 5 * shr32 (u + x) 2)
  | x :: y :: l => (((u + x) &&& 255) :: (rcg (shr32 (u + x) 8) (y :: l)).1, (rcg (shr32 (u + x) 8) (y :: l)).2)
def rc (l : List UInt32) : List UInt32 := match rcg 0 l with
  | (x :: t, u) => (x + u) :: t
  | ([], _) => []
/-- A term of the product. -/
def tm (a b : List UInt32) (i j : Nat) : UInt32 := if j ≤ i then a.getD j 0 * b.getD ((i : Int) - (j : Int)).toNat 0 else 320 * a.getD j 0 * b.getD ((17 : Int) + (i : Int) - (j : Int)).toNat 0
def uu (a b : List UInt32) (i : Nat) : Nat → UInt32
  | 0 => 0
  | j + 1 => uu a b i j + tm a b i j
def ol (a b : List UInt32) : Nat → List UInt32
  | 0 => List.replicate 17 0
  | i + 1 => (ol a b i).set i (uu a b i 17)
end
end Go.Proofs.YtofajgidjkjnpaaDoor.Pl

/- Plain: what is carried when two numbers are added byte for byte. -/
namespace Go.Proofs.YtofajgidjkjnpaaDoor.Pl
open Go Poly
/-- What is carried into a byte. -/
def cc (A S : Nat) : Nat → Nat
  | 0 => 0
  | i + 1 => (A % 256 ^ (i + 1) + S % 256 ^ (i + 1)) / 256 ^ (i + 1)
end Go.Proofs.YtofajgidjkjnpaaDoor.Pl

/- Plain: the reference's comparison of bytes. -/
namespace Go.Proofs.YtofajgidjkjnpaaDoor.Pl
open Go
theorem compare_ok {N : Nat} {a b : List UInt8} (ha : a.length < 4611686018427387904) (hb : b.length < 4611686018427387904) (hN : a.length < N) : ∃ v, ref01_Compare N a b = some ((v, ()), ()) ∧ (v = 0 ↔ a = b) := by
  unfold ref01_Compare ref01_Compare_1
  have := loopK_of (N := N) (step := fun y => ref01_Compare_s2 N y.1.1 y.1.2.1 y.1.2.2.1) (J := fun (e : (((List UInt8) × (List UInt8) × Unit) × (Unit))) => ref01_Compare_4 N e.1.1 e.1.2.1)
    (I := fun y => y.1.1 = a ∧ y.1.2.1 = b ∧ 0 ≤ y.1.2.2.1 ∧ y.1.2.2.1 ≤ (a.length : Int) ∧ y.1.2.2.1 ≤ (b.length : Int) ∧ a.take y.1.2.2.1.toNat = b.take y.1.2.2.1.toNat) (μ := fun y => ((a.length : Int) - y.1.2.2.1).toNat) (T := fun r => ∃ v, r = ((v, ()), ()) ∧ (v = 0 ↔ a = b)) ?_
    (x := ((a, b, 0, ()), ())) ⟨rfl, rfl, by simp, by simp, by simp, by simp⟩ (by simpa using hN)
  · obtain ⟨r, h1, v, rfl, h2⟩ := this
    exact ⟨v, h1, h2⟩
  · rintro ⟨⟨a', b', i, _⟩, _⟩ ⟨h1, h2, h3, h4, h5, h6⟩
    simp only at h1 h2 h3 h4 h5 h6
    subst h1; subst h2
    obtain ⟨k, rfl⟩ := Int.eq_ofNat_of_zero_le h3
    simp only [Int.toNat_natCast] at h6
    have h4' : k ≤ a'.length := by omega
    have h5' : k ≤ b'.length := by omega
    have hend : ¬ (k < a'.length ∧ k < b'.length) → ∃ v, ref01_Compare_4 N a' b' = some ((v, ()), ()) ∧ (v = 0 ↔ a' = b') := by
      intro hne
      unfold ref01_Compare_4
      by_cases e1 : a'.length < b'.length
      · refine ⟨-1, by simp [e1], ⟨fun h => by omega, fun h => by rw [h] at e1; omega⟩⟩
      · by_cases e2 : b'.length < a'.length
        · refine ⟨1, by simp [e1, e2], ⟨fun h => by omega, fun h => by rw [h] at e2; omega⟩⟩
        · refine ⟨0, by simp [e1, e2], ⟨fun _ => ?_, fun _ => rfl⟩⟩
          have hk : k = a'.length := by omega
          have hk2 : k = b'.length := by omega
          rw [List.take_of_length_le (by omega), List.take_of_length_le (by omega)] at h6
          exact h6
    by_cases hlt : k < a'.length ∧ k < b'.length
    · obtain ⟨hl1, hl2⟩ := hlt
      have e1 : w64 ((k : Int) + 1) = (k : Int) + 1 := w64_id (by omega) (by omega)
      have e2 : inR (k : Int) a'.length = true := by simp [inR]; omega
      have e3 : inR (k : Int) b'.length = true := by simp [inR]; omega
      have hlt' : (k : Int) < (a'.length : Int) := by omega
      have hlt2 : (k : Int) < (b'.length : Int) := by omega
      simp only [ref01_Compare_s2, ref01_Compare_3, hlt', hlt2, decide_true, cond_true, e2, e3, e1, Int.toNat_natCast]
      have hga : a'.getD k 0 = a'[k] := by simp [List.getD, hl1]
      have hgb : b'.getD k 0 = b'[k] := by simp [List.getD, hl2]
      by_cases c1 : a'.getD k 0 < b'.getD k 0
      · simp only [c1, decide_true, cond_true]
        refine ⟨_, rfl, -1, rfl, ⟨fun h => by omega, fun h => ?_⟩⟩
        subst h; exact absurd c1 (by simp)
      · by_cases c2 : b'.getD k 0 < a'.getD k 0
        · simp only [c1, c2, decide_true, decide_false, cond_true, cond_false]
          refine ⟨_, rfl, 1, rfl, ⟨fun h => by omega, fun h => ?_⟩⟩
          subst h; exact absurd c2 (by simp)
        · simp only [c1, c2, decide_false, cond_false]
          refine ⟨_, rfl, ⟨rfl, rfl, by simp only; omega, by simp only; omega, by simp only; omega, ?_⟩, by simp only; omega⟩
          have hk1 : ((k : Int) + 1).toNat = k + 1 := by omega
          simp only [hk1]
          rw [List.take_add_one, List.take_add_one, h6]
          congr 1
          have : a'[k] = b'[k] := by
            have := UInt8.le_antisymm (UInt8.not_lt.1 c2) (UInt8.not_lt.1 c1)
            rwa [hga, hgb] at this
          simp [hl1, hl2, this]
    · have hs : ref01_Compare_s2 N a' b' k = some (.br ((a', b', ()), ())) := by
        simp only [ref01_Compare_s2, ref01_Compare_3]
        by_cases q : (k : Int) < (a'.length : Int)
        · have q2 : ¬ (k : Int) < (b'.length : Int) := by omega
          simp only [q, q2, decide_true, decide_false, cond_true, cond_false]
        · simp only [q, decide_false, cond_false]
      refine ⟨_, hs, ?_⟩
      obtain ⟨v, h7, h8⟩ := hend hlt
      exact ⟨_, h7, v, rfl, h8⟩
theorem equal_ok {N : Nat} {a b : List UInt8} (ha : a.length < 4611686018427387904) (hb : b.length < 4611686018427387904) (hN : a.length < N) : ref01_Equal N a b = some ((decide (a = b), ()), ()) := by
  obtain ⟨v, h1, h2⟩ := compare_ok ha hb hN
  unfold ref01_Equal
  rw [h1]
  simp only [Option.bind]
  by_cases h : a = b
  · simp [h, h2.2 h]
  · have : ¬ v = 0 := fun e => h (h2.1 e)
    simp [h, this]
end Go.Proofs.YtofajgidjkjnpaaDoor.Pl

/- Plain: sealing and opening, the program's and the reference's. -/
namespace Go.Proofs.YtofajgidjkjnpaaDoor.Pl
open Go Poly
noncomputable section
def keyed (k n : List UInt8) : Bool := decide (k.length = 32) && decide (n.length = 12)
theorem keyed_ok (N : Nat) (k n : List UInt8) : aead_keyed N k n = some ((keyed k n, ()), ()) := by
  unfold aead_keyed keyed
  by_cases h1 : k.length = 32
  · by_cases h2 : n.length = 12 <;> simp (disch := omega) only [dpos, dneg, w64_of, inR_of, room_of, tmod_of, cond_true, cond_false, Bool.and_self, Bool.and_true, Bool.true_and, Bool.and_false, Bool.false_and, Bool.not_true, Bool.not_false, Option.bind_some, List.length_cons, List.length_nil, Nat.zero_add]
  · simp (disch := omega) only [dpos, dneg, w64_of, inR_of, room_of, tmod_of, cond_true, cond_false, Bool.and_self, Bool.and_true, Bool.true_and, Bool.and_false, Bool.false_and, Bool.not_true, Bool.not_false, Option.bind_some, List.length_cons, List.length_nil, Nat.zero_add]
theorem keyed_iff {k n : List UInt8} : keyed k n = true ↔ k.length = 32 ∧ n.length = 12 := by simp [keyed]
/-- Zeros up to a multiple of 16. -/
def zs (n : Nat) : List UInt8 := List.replicate ((16 - n % 16) % 16) 0
theorem zs_len (n : Nat) : (zs n).length < 16 := by simp [zs]; omega
theorem padded_ok (N : Nat) {b l : List UInt8} (h : l.length + b.length ≤ 35184372088832) : aead_padded N b l = some ((), (l ++ b ++ zs b.length, ())) := by
  unfold aead_padded
  have e : ((16 - (b.length : Int) % 16) % 16).toNat = (16 - b.length % 16) % 16 := by omega
  simp (disch := omega) only [dpos, dneg, w64_of, inR_of, room_of, tmod_of, cond_true, cond_false, Bool.and_self, Bool.and_true, Bool.true_and, Bool.and_false, Bool.false_and, Bool.not_true, Bool.not_false, Option.bind_some, List.length_cons, List.length_nil, Nat.zero_add, e, List.length_replicate, List.length_append]
  rfl
/-- Eight bytes, the lowest one first. -/
def le8 (v : UInt64) : List UInt8 := (List.range 8).map fun (i : Nat) => (shr64 v (8 * (i : Int)).toNat).toUInt8
theorem le8_len (v : UInt64) : (le8 v).length = 8 := by simp [le8]
theorem le8_get (v : UInt64) {i : Nat} (h : i < 8) : (le8 v).getD i 0 = (shr64 v (8 * (i : Int)).toNat).toUInt8 := by simp [le8, List.getD, h]
theorem length_ok (N : Nat) (hN : 4611686018427387904 ≤ N) (n : Int) {l : List UInt8} (h : l.length ≤ 70368744177664) : aead_length N n l = some ((), (l ++ le8 (iu64 n), ())) := by
  unfold aead_length aead_length_1
  have hl := le8_len (iu64 n)
  have h8N : 8 < N := by omega
  have h0 : l ++ (le8 (iu64 n)).take 0 = l := by simp
  have := loopK_run (step := fun y => aead_length_s2 N y.1.1 y.1.2.1 y.2.1) (J := fun (e : ((Unit) × ((List UInt8) × Unit))) => aead_length_3 N e.2.1) (fun i : Nat => ((n, (i : Int), ()), (l ++ (le8 (iu64 n)).take i, ()))) (n := 8) ?_ (e := ((), (l ++ le8 (iu64 n), ()))) ?_ h8N
  · rw [h0] at this
    exact this
  · intro i hi
    have hti : ((le8 (iu64 n)).take i).length = i := by simp; omega
    show aead_length_s2 N n _ _ = _
    unfold aead_length_s2
    simp (disch := omega) only [dpos, dneg, w64_of, inR_of, room_of, tmod_of, cond_true, cond_false, Bool.and_self, Bool.and_true, Bool.true_and, Bool.and_false, Bool.false_and, Bool.not_true, Bool.not_false, Option.bind_some, List.length_cons, List.length_nil, Nat.zero_add, List.length_append, hti, Int.natCast_add, Int.natCast_one]
    rw [take_snoc _ 0 (by omega), le8_get _ hi, List.append_assoc]
  · show aead_length_s2 N n _ _ = _
    unfold aead_length_s2
    simp (disch := omega) only [dpos, dneg, w64_of, inR_of, room_of, tmod_of, cond_true, cond_false, Bool.and_self, Bool.and_true, Bool.true_and, Bool.and_false, Bool.false_and, Bool.not_true, Bool.not_false, Option.bind_some, List.length_cons, List.length_nil, Nat.zero_add]
    rw [List.take_of_length_le (by omega)]
/-- What the tag is taken of. -/
def tin (d c : List UInt8) : List UInt8 := d ++ zs d.length ++ c ++ zs c.length ++ le8 (iu64 (d.length : Int)) ++ le8 (iu64 (c.length : Int))
def atag (k n d c : List UInt8) : List UInt8 := tag ((cblk k 0 n).take 32) (tin d c)
theorem atag_len (k n d c : List UInt8) : (atag k n d c).length = 16 := tag_len _ _
theorem tin_len {d c : List UInt8} (hd : d.length ≤ 4398046511104) (hc : c.length ≤ 4398046511104) : (tin d c).length ≤ 8796093022308 := by
  have := zs_len d.length; have := zs_len c.length
  unfold tin
  simp only [List.length_append, le8_len]
  omega
section
variable (N : Nat) (hN : 4611686018427387904 ≤ N) {k n d c : List UInt8} (hd : d.length ≤ 4398046511104) (hc : c.length ≤ 4398046511104)
include hN hd hc
theorem tag_ok (hk : k.length = 32) (hn : n.length = 12) : aead_Tag N k n d c = some ((true, ()), (atag k n d c, ())) := by
  unfold aead_Tag atag
  have hkd : keyed k n = true := keyed_iff.2 ⟨hk, hn⟩
  have hcl := cblk_len k 0 n
  have hcut : cut (cblk k 0 n) 0 32 = (cblk k 0 n).take 32 := by simp [cut]
  have hz1 := zs_len d.length; have hz2 := zs_len c.length
  have hp1 : aead_padded N d [] = some ((), (d ++ zs d.length, ())) := padded_ok N (l := []) (by simp; omega)
  have hp2 : aead_padded N c (d ++ zs d.length) = some ((), (d ++ zs d.length ++ c ++ zs c.length, ())) := padded_ok N (by simp; omega)
  have h8 := le8_len (iu64 (d.length : Int))
  have hl1 : aead_length N (d.length : Int) (d ++ zs d.length ++ c ++ zs c.length) = some ((), (d ++ zs d.length ++ c ++ zs c.length ++ le8 (iu64 (d.length : Int)), ())) := length_ok N hN _ (by simp; omega)
  have hl2 : aead_length N (c.length : Int) (d ++ zs d.length ++ c ++ zs c.length ++ le8 (iu64 (d.length : Int))) = some ((), (tin d c, ())) := length_ok N hN _ (by simp; omega)
  have ht : ((cblk k 0 n).take 32).length = 32 := by simp; omega
  have htin := tin_len hd hc
  have hs : poly1305_Sum N ((cblk k 0 n).take 32) (tin d c) = some ((true, ()), (tag ((cblk k 0 n).take 32) (tin d c), ())) := sum_ok N hN ht (by omega) (by omega)
  simp (disch := omega) only [dpos, dneg, w64_of, inR_of, room_of, tmod_of, cond_true, cond_false, Bool.and_self, Bool.and_true, Bool.true_and, Bool.and_false, Bool.false_and, Bool.not_true, Bool.not_false, Option.bind_some, List.length_cons, List.length_nil, Nat.zero_add, keyed_ok, hkd, cblock_ok, hp1, hp2, hl1, hl2, hcut, hs]
/-- The sealed bytes. -/
theorem seal_ok (hk : k.length = 32) (hn : n.length = 12) : aead_Seal N k n d c = some ((0, ()), (cx k 1 n c ++ atag k n d (cx k 1 n c), ())) := by
  unfold aead_Seal
  have hkd : keyed k n = true := keyed_iff.2 ⟨hk, hn⟩
  have hxl := cx_len k 1 n c
  have htl := atag_len k n d (cx k 1 n c)
  simp (disch := omega) only [dpos, dneg, w64_of, inR_of, room_of, tmod_of, cond_true, cond_false, Bool.and_self, Bool.and_true, Bool.true_and, Bool.and_false, Bool.false_and, Bool.not_true, Bool.not_false, Option.bind_some, List.length_cons, List.length_nil, Nat.zero_add, keyed_ok, hkd, xor_ok, tag_ok]
end
theorem or_zero_iff (x y : UInt8) : x ||| y = 0 ↔ x = 0 ∧ y = 0 := by
  constructor
  · intro h
    have h' := congrArg UInt8.toNat h
    rw [UInt8.toNat_or] at h'
    have z : (0 : UInt8).toNat = 0 := rfl
    rw [z] at h'
    have := Nat.left_le_or (n := x.toNat) (m := y.toNat)
    have := Nat.right_le_or (n := x.toNat) (m := y.toNat)
    exact ⟨UInt8.toNat_inj.1 (by rw [z]; omega), UInt8.toNat_inj.1 (by rw [z]; omega)⟩
  · rintro ⟨rfl, rfl⟩; rfl
theorem different_ok (N : Nat) (hN : 4611686018427387904 ≤ N) {a b : List UInt8} (h : a.length = b.length) (hl : a.length ≤ 1000) : ∃ v, aead_different N a b = some ((v, ()), ()) ∧ (v = 0 ↔ a = b) := by
  unfold aead_different aead_different_1
  have := loopK_of (N := N) (step := fun y => aead_different_s2 N y.1.1 y.1.2.1 y.1.2.2.1 y.1.2.2.2.1 y.1.2.2.2.2.1) (J := fun (e : ((UInt8 × Unit) × (Unit))) => aead_different_3 N e.1.1)
    (I := fun y => ∃ i : Nat, y = ((a, b, y.1.2.2.1, (a.length : Int), (i : Int), ()), ()) ∧ i ≤ a.length ∧ (y.1.2.2.1 = 0 ↔ a.take i = b.take i)) (μ := fun y => ((a.length : Int) - y.1.2.2.2.2.1).toNat) (T := fun r => ∃ v, r = ((v, ()), ()) ∧ (v = 0 ↔ a = b)) ?_
    (x := ((a, b, 0, (a.length : Int), 0, ()), ())) ⟨0, rfl, by omega, by simp⟩ (by simp only; omega)
  · obtain ⟨r, h1, v, rfl, h2⟩ := this
    exact ⟨v, h1, h2⟩
  · rintro ⟨⟨a', b', v, n, j, _⟩, _⟩ ⟨i, e, hi, hv⟩
    simp only [Prod.mk.injEq] at e
    obtain ⟨⟨rfl, rfl, _, rfl, rfl, _⟩, _⟩ := e
    simp only at hv ⊢
    show ∃ o, aead_different_s2 N a' b' v (a'.length : Int) (i : Int) = some o ∧ _
    unfold aead_different_s2
    by_cases hlt : i < a'.length
    · simp (disch := omega) only [dpos, dneg, w64_of, inR_of, room_of, tmod_of, cond_true, cond_false, Bool.and_self, Bool.and_true, Bool.true_and, Bool.and_false, Bool.false_and, Bool.not_true, Bool.not_false, Option.bind_some, List.length_cons, List.length_nil, Nat.zero_add, Int.toNat_natCast]
      refine ⟨_, rfl, ⟨i + 1, rfl, by omega, ?_⟩, by simp only; omega⟩
      simp only
      rw [or_zero_iff, hv, take_snoc a' 0 hlt, take_snoc b' 0 (by omega)]
      have hx : (a'.getD i 0 ^^^ b'.getD i 0 = 0) ↔ a'.getD i 0 = b'.getD i 0 := by
        constructor
        · intro e
          have := congrArg (· ^^^ b'.getD i 0) e
          simpa [UInt8.xor_assoc] using this
        · intro e; rw [e]; exact UInt8.xor_self
      rw [hx]
      constructor
      · rintro ⟨e1, e2⟩; rw [e1, e2]
      · intro e
        have := List.append_inj e (by simp; omega)
        exact ⟨this.1, by simpa using this.2⟩
    · have : i = a'.length := by omega
      subst this
      simp (disch := omega) only [dpos, dneg, w64_of, inR_of, room_of, tmod_of, cond_true, cond_false, Bool.and_self, Bool.and_true, Bool.true_and, Bool.and_false, Bool.false_and, Bool.not_true, Bool.not_false, Option.bind_some, List.length_cons, List.length_nil, Nat.zero_add]
      refine ⟨_, rfl, _, rfl, v, rfl, ?_⟩
      rw [hv, List.take_length, List.take_of_length_le (by omega)]
/-- What opening makes of bytes. -/
def aopen (k n d s : List UInt8) : List UInt8 × Int :=
  if keyed k n = false then ([], 13) else if s.length < 16 then ([], 1) else
    if atag k n d (s.take (s.length - 16)) = s.drop (s.length - 16) then (cx k 1 n (s.take (s.length - 16)), 0) else ([], 12)
theorem aopen_len (k n d s : List UInt8) : (aopen k n d s).1.length ≤ s.length := by
  unfold aopen
  split
  · simp
  · split
    · simp
    · split
      · simp [cx_len]
      · simp
section
variable (N : Nat) (hN : 4611686018427387904 ≤ N) {k n d s : List UInt8} (hd : d.length ≤ 4398046511104) (hs : s.length ≤ 4398046511104)
include hN hd hs
theorem open_ok : aead_Open N k n d s = some (((aopen k n d s).2, ()), ((aopen k n d s).1, ())) := by
  unfold aead_Open aopen
  rw [keyed_ok]
  by_cases hk : keyed k n = false
  · rw [hk]; simp only [dpos, dneg, w64_of, inR_of, room_of, tmod_of, cond_true, cond_false, Bool.and_self, Bool.and_true, Bool.true_and, Bool.and_false, Bool.false_and, Bool.not_true, Bool.not_false, Option.bind_some, List.length_cons, List.length_nil, Nat.zero_add, if_true]
  · have hk' : keyed k n = true := by simpa using hk
    obtain ⟨h1, h2⟩ := keyed_iff.1 hk'
    rw [hk', if_neg (by decide)]
    by_cases h16 : s.length < 16
    · simp (disch := omega) only [dpos, dneg, w64_of, inR_of, room_of, tmod_of, cond_true, cond_false, Bool.and_self, Bool.and_true, Bool.true_and, Bool.and_false, Bool.false_and, Bool.not_true, Bool.not_false, Option.bind_some, List.length_cons, List.length_nil, Nat.zero_add, if_pos]
    · have e1 : ((s.length : Int) - 16).toNat = s.length - 16 := by omega
      have c1 : cut s 0 (s.length - 16) = s.take (s.length - 16) := by simp [cut]
      have c2 : cut s (s.length - 16) s.length = s.drop (s.length - 16) := by simp [cut]
      have l1 : (s.take (s.length - 16)).length ≤ 4398046511104 := by simp; omega
      have l2 : (s.drop (s.length - 16)).length = 16 := by simp; omega
      have lt := atag_len k n d (s.take (s.length - 16))
      obtain ⟨v, e2, e3⟩ := different_ok N hN (a := atag k n d (s.take (s.length - 16))) (b := s.drop (s.length - 16)) (by omega) (by omega)
      simp (disch := omega) only [dpos, dneg, w64_of, inR_of, room_of, tmod_of, cond_true, cond_false, Bool.and_self, Bool.and_true, Bool.true_and, Bool.and_false, Bool.false_and, Bool.not_true, Bool.not_false, Option.bind_some, List.length_cons, List.length_nil, Nat.zero_add, e1, c1, c2, tag_ok, e2]
      by_cases hv : v = 0
      · have := e3.1 hv
        simp (disch := omega) only [dpos, dneg, w64_of, inR_of, room_of, tmod_of, cond_true, cond_false, Bool.and_self, Bool.and_true, Bool.true_and, Bool.and_false, Bool.false_and, Bool.not_true, Bool.not_false, Option.bind_some, List.length_cons, List.length_nil, Nat.zero_add, hv, decide_true, xor_ok, if_neg h16, if_pos this]
      · have hne : ¬ (atag k n d (s.take (s.length - 16)) = s.drop (s.length - 16)) := fun e => hv (e3.2 e)
        rw [dneg hv, if_neg h16, if_neg hne]
        simp only [dpos, dneg, w64_of, inR_of, room_of, tmod_of, cond_true, cond_false, Bool.and_self, Bool.and_true, Bool.true_and, Bool.and_false, Bool.false_and, Bool.not_true, Bool.not_false, Option.bind_some, List.length_cons, List.length_nil, Nat.zero_add]
end
end
end Go.Proofs.YtofajgidjkjnpaaDoor.Pl

/- Plain: an encrypted message is opened, by the program and by the reference. -/
namespace Go.Proofs.YtofajgidjkjnpaaDoor.Pl
open Go
noncomputable section
def sread (b key : List UInt8) (kind : Int) : Hd × Int × List UInt8 × Int :=
  if ¬ key.length = 36 then (hnil, 0, [], 13) else if ¬ (hparse b).2 = 0 then (hnil, 0, [], (hparse b).2) else if ¬ (hparse b).1.2.2.1 = kind then (hnil, 0, [], 7) else
    if ¬ (cbody (b.drop 28)).2.2 = 0 then (hnil, 0, [], (cbody (b.drop 28)).2.2) else ((hparse b).1, (cbody (b.drop 28)).2.1, (cbody (b.drop 28)).1, 0)
def sparse (b key : List UInt8) (kind least : Int) : Hd × Int × List UInt8 × Int :=
  if (sread b key kind).2.2.2 = 0 ∧ ((sread b key kind).2.2.1.length : Int) < least then (hnil, 0, [], 1) else sread b key kind
theorem cbody_ok {c : List UInt8} (h : (cbody c).2.2 = 0) : 4 ≤ c.length ∧ (cbody c).1 = c.drop 4 ∧ (cbody c).2.1 = ((c.getD 0 0).toNat : Int) := by
  unfold cbody at h ⊢
  by_cases h1 : c.length < 4
  · rw [if_pos h1] at h; cases h
  rw [if_neg h1] at h ⊢
  split at h
  · cases h
  · rename_i h2
    rw [if_neg h2]
    split at h
    · cases h
    · rename_i h3
      rw [if_neg h3]
      exact ⟨by omega, rfl, rfl⟩
theorem sread_ok {b key : List UInt8} {kind : Int} (hl : b.length ≤ 140737488351232) (h : (sread b key kind).2.2.2 = 0) : key.length = 36 ∧ 32 ≤ b.length ∧ b.length < 4294967296 ∧ (sread b key kind).2.2.1 = b.drop 32 := by
  unfold sread at h ⊢
  by_cases h1 : key.length = 36
  · rw [if_neg (not_not_intro h1)] at h ⊢
    by_cases h2 : (hparse b).2 = 0
    · rw [if_neg (not_not_intro h2)] at h ⊢
      by_cases h3 : (hparse b).1.2.2.1 = kind
      · rw [if_neg (not_not_intro h3)] at h ⊢
        by_cases h4 : (cbody (b.drop 28)).2.2 = 0
        · rw [if_neg (not_not_intro h4)]
          obtain ⟨q1, q2, _⟩ := cbody_ok h4
          obtain ⟨q3, q4⟩ := hparse_len (by omega) h2
          simp only [List.length_drop] at q1
          exact ⟨h1, by omega, q4, by rw [q2, List.drop_drop]⟩
        · rw [if_pos h4] at h; exact absurd h h4
      · rw [if_pos h3] at h; cases h
    · rw [if_pos h2] at h; exact absurd h h2
  · rw [if_pos h1] at h; cases h
theorem drop28 {b : List UInt8} : cut b 28 b.length = b.drop 28 := by simp [cut]
theorem parse_ok (N : Nat) (hN : 8 < N) {b key : List UInt8} {kind least : Int} (hk : kind = 46 ∨ kind = 53) (hl : b.length ≤ 140737488351232) :
    sealed_parse N b key kind least = some ((((sparse b key kind least).1, (sparse b key kind least).2.1, (sparse b key kind least).2.2.1, ()), (sparse b key kind least).2.2.2, ()), ()) := by
  unfold sealed_parse sparse sread
  by_cases h1 : key.length = 36
  · rw [if_neg (not_not_intro h1), dpos (by omega), hparse_ok N hN (by omega)]
    simp only [Bool.not_true, cond_false, Option.bind_some]
    by_cases h2 : (hparse b).2 = 0
    · obtain ⟨q3, q4⟩ := hparse_len (by omega) h2
      rw [if_neg (not_not_intro h2), dpos h2]
      simp only [Bool.not_true, cond_false]
      by_cases h3 : (hparse b).1.2.2.1 = kind
      · rw [if_neg (not_not_intro h3), dpos h3, dpos (show (0 : Int) ≤ 28 by omega), dpos (show (28 : Int) ≤ (b.length : Int) by omega), dpos (show (b.length : Int) ≤ (b.length : Int) by omega)]
        simp only [Bool.not_true, cond_false, Bool.and_self, cond_true]
        rw [h3, drop28, cparse_ok N hN hk (by simp; omega)]
        simp only [Option.bind_some]
        by_cases h4 : (cbody (b.drop 28)).2.2 = 0
        · rw [if_neg (not_not_intro h4), dpos h4, if_pos h4]
          by_cases h5 : ((cbody (b.drop 28)).1.length : Int) < least
          · rw [if_pos ⟨rfl, h5⟩]
            show (bif decide (((cbody (b.drop 28)).1.length : Int) < least) then _ else _) = _
            rw [dpos h5]; rfl
          · rw [if_neg (fun h => h5 h.2)]
            show (bif decide (((cbody (b.drop 28)).1.length : Int) < least) then _ else _) = _
            rw [dneg h5]; rfl
        · rw [if_pos h4, dneg h4, if_neg h4, if_neg (fun h => h4 h.1)]; rfl
      · rw [if_pos h3, dneg h3, if_neg (fun h => by cases h.1)]; rfl
    · rw [if_pos h2, dneg h2, if_neg (fun h => h2 h.1)]; rfl
  · rw [if_pos h1, dneg (by omega), if_neg (fun h => by cases h.1)]; rfl
/-- What the cipher gives back. -/
def sopn (b key : List UInt8) (at_ : Nat) : List UInt8 × Int := aopen (key.take 32) (key.drop 32 ++ (b.drop at_).take 8) (b.take at_) (b.drop (at_ + 8))
section
variable (N : Nat) (hN : 4611686018427387904 ≤ N)
include hN
theorem read_open_ok (r : (Hd × (Int × ((List UInt8) × Unit)))) {b key : List UInt8} {m : Nat} (hm : m ≤ 4) (hk : key.length = 36) (h : 40 + m ≤ b.length) (hl : b.length ≤ 4398046511104) :
    sealed_read_open N r b key (m : Int) = some (((sopn b key (32 + m)).2, ()), ((sopn b key (32 + m)).1, ())) := by
  unfold sealed_read_open sealed_nonce sopn
  have t1 : (32 + (m : Int)).toNat = 32 + m := by omega
  have t2 : (32 + (m : Int) + 8).toNat = 32 + m + 8 := by omega
  have c1 : cut key 32 key.length = key.drop 32 := by simp [cut]
  have c2 : cut b (32 + m) (32 + m + 8) = (b.drop (32 + m)).take 8 := cut_at b _ 8
  have c3 : cut b 0 (32 + m) = b.take (32 + m) := by simp [cut]
  have c4 : cut b (32 + m + 8) b.length = b.drop (32 + m + 8) := by simp [cut]
  have c5 : cut key 0 32 = key.take 32 := by simp [cut]
  have l1 : (key.drop 32).length = 4 := by simp; omega
  have l2 : ((b.drop (32 + m)).take 8).length = 8 := by simp; omega
  simp (disch := omega) only [dpos, dneg, w64_of, inR_of, room_of, tmod_of, cond_true, cond_false, Bool.and_self, Bool.and_true, Bool.true_and, Bool.and_false, Bool.false_and, Bool.not_true, Bool.not_false, Option.bind_some, List.length_cons, List.length_nil, Nat.zero_add, t1, t2, Int.toNat_natCast, c1, c2, c3, c4, c5, (show (32 : Int).toNat = 32 from rfl), (show (0 : Int).toNat = 0 from rfl)]
  rw [open_ok N hN (by simp; omega) (by simp; omega)]
  rfl
end
def supad (p : List UInt8) : List UInt8 × Int := if p.length - 1 < (p.getD (p.length - 1) 0).toNat then ([], 4) else (p.take (p.length - 1 - (p.getD (p.length - 1) 0).toNat), 0)
theorem unpad_ok (N : Nat) {p : List UInt8} (h : 1 ≤ p.length) (hl : p.length ≤ 4398046511104) : sealed_unpad N p = some (((supad p).1, (supad p).2, ()), ()) := by
  unfold sealed_unpad supad
  have e1 : w64 ((p.length : Int) - 1) = ((p.length - 1 : Nat) : Int) := by rw [w64_of (by omega) (by omega)]; omega
  simp only [e1]
  rw [inR_of (by omega) (by omega), cond_true, Int.toNat_natCast]
  have hx := (p.getD (p.length - 1) 0).toNat_lt
  generalize p.getD (p.length - 1) 0 = x at *
  by_cases h1 : p.length - 1 < x.toNat
  · rw [if_pos h1]
    show (bif decide (((p.length - 1 : Nat) : Int) < (x.toNat : Int)) then _ else _) = _
    rw [dpos (by omega)]; rfl
  · rw [if_neg h1]
    show (bif decide (((p.length - 1 : Nat) : Int) < (x.toNat : Int)) then _ else _) = _
    have e2 : w64 (((p.length - 1 : Nat) : Int) - (x.toNat : Int)) = ((p.length - 1 - x.toNat : Nat) : Int) := by rw [w64_of (by omega) (by omega)]; omega
    rw [dneg (by omega), cond_false, e2, dpos (show (0 : Int) ≤ 0 by omega), dpos (show (0 : Int) ≤ ((p.length - 1 - x.toNat : Nat) : Int) by omega), dpos (show ((p.length - 1 - x.toNat : Nat) : Int) ≤ (p.length : Int) by omega)]
    simp only [Bool.and_self, cond_true, Int.toNat_natCast]
    rfl
theorem sopn_len {b key : List UInt8} {m : Nat} (h : (sopn b key m).2 = 0) (hk : key.length = 36) (hm : m + 8 + 17 ≤ b.length) : 1 ≤ (sopn b key m).1.length ∧ (sopn b key m).1.length ≤ b.length := by
  unfold sopn at h ⊢
  have hle := aopen_len (key.take 32) (key.drop 32 ++ (b.drop m).take 8) (b.take m) (b.drop (m + 8))
  refine ⟨?_, Nat.le_trans hle (by simp)⟩
  have hl : (b.drop (m + 8)).length = b.length - (m + 8) := by simp
  unfold aopen at h ⊢
  split at h
  · cases h
  · rename_i h1
    rw [if_neg h1]
    split at h
    · cases h
    · rename_i h2
      rw [if_neg h2]
      split at h
      · rename_i h3
        rw [if_pos h3]
        rw [cx_len, List.length_take, hl]; omega
      · cases h
/-- What is found in an encrypted message. -/
def sopen (b key : List UInt8) : Hd × Int × List UInt8 × Int :=
  if ¬ (sparse b key 46 25).2.2.2 = 0 then (hnil, 0, [], (sparse b key 46 25).2.2.2) else if ¬ (sopn b key 32).2 = 0 then (hnil, 0, [], (sopn b key 32).2) else
    if ¬ (supad (sopn b key 32).1).2 = 0 then (hnil, 0, [], (supad (sopn b key 32).1).2) else ((sparse b key 46 25).1, (sparse b key 46 25).2.1, (supad (sopn b key 32).1).1, 0)
theorem sparse_ok {b key : List UInt8} {kind least : Int} (hl : b.length ≤ 140737488351232) (h : (sparse b key kind least).2.2.2 = 0) : key.length = 36 ∧ b.length < 4294967296 ∧ least ≤ (b.length : Int) - 32 ∧ sparse b key kind least = sread b key kind ∧ (sread b key kind).2.2.1 = b.drop 32 ∧ 32 ≤ b.length := by
  unfold sparse at h ⊢
  split at h
  · cases h
  · rename_i h1
    rw [if_neg h1]
    obtain ⟨q1, q2, q3, q4⟩ := sread_ok hl h
    refine ⟨q1, q3, ?_, rfl, q4, q2⟩
    rcases Classical.em (((sread b key kind).2.2.1.length : Int) < least) with h2 | h2
    · exact absurd ⟨h, h2⟩ h1
    · rw [q4, List.length_drop] at h2; omega
section
variable (N : Nat) (hN : 4611686018427387904 ≤ N)
include hN
theorem sopen_ok {b : List UInt8} (key : List UInt8) (hl : b.length ≤ 140737488351232) : sealed_Open N b key = some (((sopen b key).1, (sopen b key).2.1, (sopen b key).2.2.1, (sopen b key).2.2.2, ()), ()) := by
  unfold sealed_Open sopen
  rw [parse_ok N (by omega) (.inl rfl) hl]
  simp only [Option.bind_some]
  by_cases h1 : (sparse b key 46 25).2.2.2 = 0
  · obtain ⟨q1, q2, q3, q4, q5, q6⟩ := sparse_ok hl h1
    rw [if_neg (not_not_intro h1), dpos h1]
    simp only [Bool.not_true, cond_false]
    have := read_open_ok N hN ((sparse b key 46 25).1, (sparse b key 46 25).2.1, (sparse b key 46 25).2.2.1, ()) (b := b) (key := key) (m := 0) (by omega) q1 (by omega) (by omega)
    rw [show ((0 : Nat) : Int) = 0 from rfl, Nat.add_zero] at this
    rw [this]
    simp only [Option.bind_some]
    by_cases h2 : (sopn b key 32).2 = 0
    · obtain ⟨q7, q8⟩ := sopn_len h2 q1 (by omega)
      rw [if_neg (not_not_intro h2), dpos h2, cond_true, unpad_ok N q7 (by omega)]
      simp only [Option.bind_some]
      unfold sealed_Open_1
      by_cases h3 : (supad (sopn b key 32).1).2 = 0
      · rw [if_neg (not_not_intro h3), dpos h3]; rfl
      · rw [if_pos h3, dneg h3]; rfl
    · rw [if_pos h2, dneg h2, cond_false]
      unfold sealed_Open_1
      rw [dneg h2]; rfl
  · rw [if_pos h1, dneg h1]; rfl
end
end
end Go.Proofs.YtofajgidjkjnpaaDoor.Pl

/- Plain: a part of a message is opened, by the program and by the reference. -/
namespace Go.Proofs.YtofajgidjkjnpaaDoor.Pl
open Go
noncomputable section
abbrev Fr : Type := Int × Int × Int × List UInt8 × Unit
def fnil : Fr := (0, 0, 0, [], ())
def pnum (b : List UInt8) : UInt64 := nbr ((b.drop 32).take 2)
def ptot (b : List UInt8) : UInt64 := nbr ((b.drop 34).take 2)
def spart (b key : List UInt8) : Hd × Fr × Int :=
  if ¬ (sparse b key 53 29).2.2.2 = 0 then (hnil, fnil, (sparse b key 53 29).2.2.2) else if pnum b = 0 ∨ ptot b < pnum b ∨ 16 < ptot b then (hnil, fnil, 5) else
    if ¬ (sopn b key 36).2 = 0 then (hnil, fnil, (sopn b key 36).2) else if ¬ (sparse b key 53 29).2.1 = 0 ∧ ¬ pnum b = 1 then (hnil, fnil, 7) else
      if ¬ (supad (sopn b key 36).1).2 = 0 then (hnil, fnil, (supad (sopn b key 36).1).2) else
        ((sparse b key 53 29).1, (((pnum b).toNat : Int), ((ptot b).toNat : Int), (sparse b key 53 29).2.1, (supad (sopn b key 36).1).1, ()), 0)
section
variable (N : Nat) (hN : 4611686018427387904 ≤ N)
include hN
theorem spart_ok {b : List UInt8} (key : List UInt8) (hl : b.length ≤ 140737488351232) : sealed_OpenPart N b key = some (((spart b key).1, (spart b key).2.1, (spart b key).2.2, ()), ()) := by
  unfold sealed_OpenPart spart
  rw [parse_ok N (by omega) (.inr rfl) hl]
  simp only [Option.bind_some]
  by_cases h1 : (sparse b key 53 29).2.2.2 = 0
  · obtain ⟨q1, q2, q3, q4, q5, q6⟩ := sparse_ok hl h1
    rw [← q4] at q5
    have hbl : (b.drop 32).length = b.length - 32 := by simp
    rw [if_neg (not_not_intro h1), dpos h1, q5]
    simp only [Bool.not_true, cond_false]
    rw [wire_number N (by omega) (by omega) (by omega) (by omega) (by omega) (by omega), wire_number N (by omega) (by omega) (by omega) (by omega) (by omega) (by omega)]
    rw [show nbr (List.take (2 : Int).toNat (List.drop (0 : Int).toNat (b.drop 32))) = pnum b from rfl, show nbr (List.take (2 : Int).toNat (List.drop (2 : Int).toNat (b.drop 32))) = ptot b from by rw [List.drop_drop]; rfl]
    have hp1 : (pnum b).toNat < 65536 := nbr_lt (k := 2) (by omega) (by simp; omega)
    have hp2 : (ptot b).toNat < 65536 := nbr_lt (k := 2) (by omega) (by simp; omega)
    generalize pnum b = pn at *
    generalize ptot b = pt at *
    simp only [Option.bind_some]
    rw [w64_of (by omega) (by omega), w64_of (by omega) (by omega)]
    unfold sealed_OpenPart_1
    by_cases h2 : pn = 0
    · rw [dpos h2, if_pos (.inl h2)]; rfl
    by_cases h3 : pt < pn
    · rw [dneg h2, dpos h3, if_pos (.inr (.inl h3))]; rfl
    by_cases h4 : 16 < pt
    · rw [dneg h2, dneg h3, dpos h4, if_pos (.inr (.inr h4))]; rfl
    rw [dneg h2, dneg h3, dneg h4, if_neg (fun h => by rcases h with h | h | h; exact h2 h; exact h3 h; exact h4 h)]
    simp only [cond_false]
    have := read_open_ok N hN ((sparse b key 53 29).1, (sparse b key 53 29).2.1, b.drop 32, ()) (b := b) (key := key) (m := 4) (by omega) q1 (by omega) (by omega)
    rw [show ((4 : Nat) : Int) = 4 from rfl, show 32 + 4 = 36 from rfl] at this
    rw [this]
    simp only [Option.bind_some]
    unfold sealed_OpenPart_2
    have hpn : decide ((pn.toNat : Int) = 1) = decide (pn = 1) := by
      rw [Bool.eq_iff_iff, decide_eq_true_eq, decide_eq_true_eq, ← UInt64.toNat_inj]
      show _ ↔ pn.toNat = 1
      omega
    rw [hpn]
    by_cases h5 : (sopn b key 36).2 = 0
    · obtain ⟨q7, q8⟩ := sopn_len h5 q1 (by omega)
      rw [if_neg (not_not_intro h5), dpos h5, cond_true]
      have fin : ∀ e : Int, e = 0 → sealed_OpenPart_3 N e (0, 0, 0, 0, 0, 0, ()) (0, 0, 0, [], ()) ((sparse b key 53 29).1, (sparse b key 53 29).2.1, b.drop 32, ()) ((pn.toNat : Int), (pt.toNat : Int), (sparse b key 53 29).2.1, [], ()) (sopn b key 36).1 =
          some ((if ¬ (supad (sopn b key 36).1).2 = 0 then (hnil, fnil, (supad (sopn b key 36).1).2, ()) else ((sparse b key 53 29).1, ((pn.toNat : Int), (pt.toNat : Int), (sparse b key 53 29).2.1, (supad (sopn b key 36).1).1, ()), 0, ())), ()) := by
        rintro _ rfl
        unfold sealed_OpenPart_3 sealed_OpenPart_4
        rw [decide_eq_true (show (0 : Int) = 0 from rfl), cond_true, unpad_ok N q7 (by omega)]
        simp only [Option.bind_some]
        by_cases h7 : (supad (sopn b key 36).1).2 = 0
        · rw [if_neg (not_not_intro h7), dpos h7]; rfl
        · rw [if_pos h7, dneg h7]; rfl
      by_cases h6 : (sparse b key 53 29).2.1 = 0
      · rw [dpos h6, if_neg (fun h => h.1 h6)]
        simp only [Bool.not_true, cond_false]
        rw [fin _ h5]
        split <;> rfl
      · rw [dneg h6]
        simp only [Bool.not_false, cond_true]
        by_cases h8 : pn = 1
        · rw [dpos h8, if_neg (fun h => h.2 h8)]
          simp only [Bool.not_true, cond_false]
          rw [fin _ h5]
          split <;> rfl
        · rw [dneg h8, if_pos ⟨h6, h8⟩]; rfl
    · rw [if_pos h5, dneg h5, cond_false, cond_false]
      unfold sealed_OpenPart_3 sealed_OpenPart_4
      rw [dneg h5]; rfl
  · rw [if_pos h1, dneg h1]; rfl
end
end
end Go.Proofs.YtofajgidjkjnpaaDoor.Pl

/- Plain: the maker of inputs (shallow functions of make). -/
namespace Go.Proofs.YtofajgidjkjnpaaDoor.Pl
open Go

/-- A maker whose place lies in its list. -/
def COk (c : List UInt8 × (Int × Unit)) : Prop := 0 ≤ c.2.1 ∧ c.2.1 ≤ (c.1.length : Int) ∧ c.1.length ≤ 1000000000000000
theorem next_ok (N : Nat) {c : List UInt8 × (Int × Unit)} {n : Int} (h : COk c) (hn : 0 < n) : ∃ v c', make_Codes_Next N n c = some ((v, ()), (c', ())) ∧ 0 ≤ v ∧ v < n ∧ COk c' := by
  obtain ⟨l, i, u⟩ := c
  obtain ⟨h1, h2, h3⟩ := h
  simp only at h1 h2 h3
  have hb : (l.length : Int) ≤ 1000000000000000 := by omega
  unfold make_Codes_Next make_Codes_Left
  simp only [Option.bind]
  by_cases hlt : i < (l.length : Int)
  · have e1 : w64 (i + 1) = i + 1 := w64_of (by omega) (by omega)
    have e2 : w64 (i + 1 - 1) = i := by rw [w64_of (by omega) (by omega)]; omega
    simp only [hlt, decide_true, Bool.not_true, cond_false, e1, e2]
    have e3 : inR i l.length = true := by simp [inR, h1, hlt]
    have e4 : (!(decide (n = 0))) = true := by simp; omega
    simp only [e3, e4, cond_true]
    refine ⟨_, _, rfl, ?_, ?_, by simp only; omega, by simp only; omega, h3⟩
    · exact Int.tmod_nonneg _ (by omega)
    · exact Int.tmod_lt_of_pos _ hn
  · simp only [hlt, decide_false, Bool.not_false, cond_true]
    exact ⟨0, _, rfl, by omega, hn, h1, h2, h3⟩
theorem bytes_ok {N : Nat} {c : List UInt8 × (Int × Unit)} {n : Int} (h : COk c) (h0 : 0 ≤ n) (hn : n ≤ 1000000) (hN : n.toNat < N) : ∃ c' out, make_Codes_Bytes N n c = some ((), (c', out, ())) ∧ out.length = n.toNat ∧ COk c' := by
  unfold make_Codes_Bytes make_Codes_Bytes_1
  have := loopK_of (N := N) (step := fun y => make_Codes_Bytes_s2 N y.1.1 y.1.2.1 y.2.1 y.2.2.1) (J := fun (e : ((Unit) × (((List UInt8) × (Int × Unit)) × (List UInt8) × Unit))) => make_Codes_Bytes_3 N e.2.1 e.2.2.1)
    (I := fun y => y.1.1 = n ∧ 0 ≤ y.1.2.1 ∧ y.1.2.1 ≤ n ∧ COk y.2.1 ∧ y.2.2.1.length = y.1.2.1.toNat) (μ := fun y => (n - y.1.2.1).toNat) (T := fun r => ∃ c' out, r = ((), (c', out, ())) ∧ out.length = n.toNat ∧ COk c') ?_
    (x := ((n, 0, ()), (c, [], ()))) ⟨rfl, by simp, by simpa using h0, h, by simp⟩ (by simpa using hN)
  · obtain ⟨r, h1, c', out, rfl, h2, h3⟩ := this
    exact ⟨c', out, h1, h2, h3⟩
  · rintro ⟨⟨n', i, _⟩, ⟨p, out, _⟩⟩ ⟨h1, h2, h3, h4, h5⟩
    simp only at h1 h2 h3 h4 h5
    subst h1
    simp only [make_Codes_Bytes_s2]
    by_cases hlt : i < n'
    · obtain ⟨v, c', e, h6, h7, h8⟩ := next_ok N (n := 256) h4 (by omega)
      have e1 : w64 (i + 1) = i + 1 := w64_of (by omega) (by omega)
      simp only [hlt, decide_true, cond_true, e, Option.bind]
      have e2 : room (out.length + [iu8 (w64 (v + w64 (i * 7)))].length) 1 = true := by
        unfold room; simp; omega
      rw [e2, cond_true, e1]
      refine ⟨_, rfl, ⟨rfl, by simp only; omega, by simp only; omega, h8, by simp; omega⟩, by simp only; omega⟩
    · simp only [hlt, decide_false, cond_false]
      refine ⟨_, rfl, _, rfl, p, out, rfl, by rw [h5]; congr 1; omega, h4⟩
theorem new_ok (N : Nat) (l : List UInt8) {m : Int} (h0 : 0 ≤ m) (hm : m ≤ 1000000) : ∃ c, make_New N l m = some ((), (c, ())) ∧ COk c := by
  unfold make_New
  by_cases hlt : m < (l.length : Int)
  · simp only [hlt, decide_true, cond_true, h0, Int.le_refl, Bool.and_self, show m ≤ (l.length : Int) by omega]
    exact ⟨_, rfl, by simp, by simp, by simp [cut]; omega⟩
  · simp only [hlt, decide_false, cond_false]
    exact ⟨_, rfl, by simp, by simp, by simp only; omega⟩
end Go.Proofs.YtofajgidjkjnpaaDoor.Pl

/- Plain: loops that look for the first place where a test holds. -/
namespace Go.Proofs.YtofajgidjkjnpaaDoor.Pl
open Go
/-- The first number below n, from k on, at which a test holds. -/
def firstAt (q : Nat → Bool) (k : Nat) : Nat → Option Nat
  | 0 => none
  | n + 1 => if q k = true then some k else firstAt q (k + 1) n
theorem firstAt_none {q : Nat → Bool} : ∀ {n k : Nat}, firstAt q k n = none ↔ ∀ i, k ≤ i → i < k + n → q i = false
  | 0, k => ⟨fun _ i h h' => by omega, fun _ => rfl⟩
  | n + 1, k => by
    unfold firstAt
    by_cases h : q k = true
    · rw [if_pos h]
      constructor
      · intro h'; cases h'
      · intro h'; rw [h' k (by omega) (by omega)] at h; cases h
    · rw [if_neg h, firstAt_none]
      constructor
      · intro h' i h1 h2
        by_cases e : i = k
        · subst e; simpa using h
        · exact h' i (by omega) (by omega)
      · intro h' i h1 h2; exact h' i (by omega) (by omega)
/-- A loop that ends where a test holds first. -/
theorem loopK_find {S E R : Type} {step : S → Option (Lo S E R)} {J : E → Option R} (xs : Nat → S) (q : Nat → Bool) (r : Nat → R) {n : Nat} {e : E}
    (h : ∀ i, i < n → q i = false → step (xs i) = some (.go (xs (i + 1)))) (h' : ∀ i, i < n → q i = true → step (xs i) = some (.rt (r i))) (hb : step (xs n) = some (.br e)) {N : Nat} (hN : n < N) :
    loopK N step J (xs 0) = match firstAt q 0 n with
      | none => J e
      | some i => some (r i) := by
  suffices H : ∀ m k, k + m = n → ∀ M, m < M → loopK M step J (xs k) = match firstAt q k m with
      | none => J e
      | some i => some (r i) from H n 0 (by omega) N hN
  intro m
  induction m with
  | zero =>
    intro k hk M hM
    obtain ⟨M, rfl⟩ : ∃ m, M = m + 1 := ⟨M - 1, by omega⟩
    have : k = n := by omega
    subst this
    rw [loopK_succ, hb]; rfl
  | succ m ih =>
    intro k hk M hM
    obtain ⟨M, rfl⟩ : ∃ m, M = m + 1 := ⟨M - 1, by omega⟩
    unfold firstAt
    cases hq : q k with
    | true => rw [loopK_succ, h' k (by omega) hq, if_pos rfl]; rfl
    | false =>
      rw [loopK_succ, h k (by omega) hq, if_neg (by decide)]
      exact ih (k + 1) (by omega) M (by omega)
end Go.Proofs.YtofajgidjkjnpaaDoor.Pl

/- Plain: encrypted messages are written, by the program and by the reference; inputs that are drawn. -/
namespace Go.Proofs.YtofajgidjkjnpaaDoor.Pl
open Go
theorem word_ok (N : Nat) (hN : 4611686018427387904 ≤ N) {c : List UInt8 × (Int × Unit)} (hc : COk c) : ∃ v c', make_Codes_Word N c = some ((v, ()), (c', ())) ∧ COk c' := by
  unfold make_Codes_Word
  obtain ⟨u, c1, e1, u0, u1, k1⟩ := next_ok N (n := 6) hc (by omega)
  rw [e1, Option.bind_some]
  by_cases h0 : u = 0
  · obtain ⟨w, c2, e2, _, _, k2⟩ := next_ok N (n := 4) k1 (by omega)
    rw [dpos h0, cond_true, e2]
    exact ⟨_, _, rfl, k2⟩
  by_cases h1 : u = 1
  · obtain ⟨w, c2, e2, _, _, k2⟩ := next_ok N (n := 3) k1 (by omega)
    rw [dneg h0, dpos h1, cond_false, cond_true, e2]
    exact ⟨_, _, rfl, k2⟩
  · rw [dneg h0, dneg h1, cond_false, cond_false]
    unfold make_Codes_Word_1
    have := loopK_of (N := N) (step := fun y => make_Codes_Word_s2 N y.1.1 y.1.2.1 y.2.1) (J := fun (e : ((UInt64 × Unit) × ((List UInt8 × (Int × Unit)) × Unit))) => make_Codes_Word_3 N e.1.1 e.2.1)
      (I := fun y => ∃ (i : Nat) (v : UInt64) (d : List UInt8 × (Int × Unit)), y = ((v, (i : Int), ()), (d, ())) ∧ i ≤ 8 ∧ COk d) (μ := fun y => (8 - y.1.2.1).toNat) (T := fun r => ∃ v c', r = ((v, ()), (c', ())) ∧ COk c') ?_ (x := ((0, 0, ()), (c1, ()))) ⟨0, 0, c1, rfl, by omega, k1⟩ (by simp only; omega)
    · obtain ⟨r, h1, v, c', rfl, h2⟩ := this; exact ⟨v, c', h1, h2⟩
    · rintro _ ⟨i, v, d, rfl, hi, hd⟩
      show ∃ r, make_Codes_Word_s2 N v (i : Int) d = some r ∧ _
      unfold make_Codes_Word_s2
      by_cases hlt : i < 8
      · obtain ⟨w, d', e, _, _, k⟩ := next_ok N (n := 256) hd (by omega)
        rw [dpos (by omega), cond_true, e, Option.bind_some]
        have hw : w64 ((i : Int) + 1) = ((i + 1 : Nat) : Int) := by rw [w64_of (by omega) (by omega)]; rfl
        rw [hw]
        exact ⟨_, rfl, ⟨i + 1, _, d', rfl, by omega, k⟩, by simp only; omega⟩
      · rw [dneg (by omega), cond_false]
        exact ⟨_, rfl, _, rfl, v, d, rfl, hd⟩
/-- A header with another kind of first payload. -/
def hset (h : Hd) (k : Int) : Hd := (h.1, h.2.1, k, h.2.2.2.1, h.2.2.2.2.1, h.2.2.2.2.2.1, ())
theorem hcheck_zero {h : Hd} (h1 : ¬ h.1 = 0) (h2 : 34 ≤ h.2.2.2.1) (h3 : h.2.2.2.1 ≤ 37) (h4 : 0 ≤ h.2.2.1) (h5 : h.2.2.1 ≤ 255) (h6 : andNot64 h.2.2.2.2.1 56 = 0) (h7 : ¬ h.2.2.2.1 = 34 → ¬ h.2.1 = 0) (h8 : h.2.2.2.1 = 34 → h.2.2.2.2.2.1 = 0) : hcheck h = 0 := by
  unfold hcheck header_Check
  rw [dneg h1, dneg (show ¬ h.2.2.2.1 < 34 by omega), dneg (show ¬ 37 < h.2.2.2.1 by omega), dneg (show ¬ h.2.2.1 < 0 by omega), dneg (show ¬ 255 < h.2.2.1 by omega), dpos h6]
  by_cases h9 : h.2.2.2.1 = 34
  · rw [dpos h9, dpos (h8 h9)]; rfl
  · rw [dneg h9, dneg (h7 h9)]; rfl
/-- A header that may be written. -/
def HOk (h : Hd) : Prop := h.2.2.1 = 0 ∧ (∀ k : Int, 0 ≤ k → k ≤ 255 → hcheck (hset h k) = 0) ∧ and64 ((iu8 h.2.2.2.2.1).toNat : Int) 56 = h.2.2.2.2.1 ∧ 34 ≤ h.2.2.2.1 ∧ h.2.2.2.1 ≤ 37
theorem header_ok (N : Nat) (hN : 4611686018427387904 ≤ N) {c : List UInt8 × (Int × Unit)} (hc : COk c) : ∃ h c', make_Codes_Header N c = some ((h, ()), (c', ())) ∧ COk c' ∧ HOk h := by
  unfold make_Codes_Header
  obtain ⟨a, c1, e1, k1⟩ := word_ok N hN hc
  obtain ⟨b, c2, e2, k2⟩ := word_ok N hN k1
  obtain ⟨x, c3, e3, x0, x1, k3⟩ := next_ok N (n := 4) k2 (by omega)
  obtain ⟨f, c4, e4, f0, f1, k4⟩ := next_ok N (n := 4) k3 (by omega)
  simp only [e1, e2, e3, e4, Option.bind_some]
  rw [w64_of (by omega) (by omega), inR_of f0 (by simpa using f1), cond_true]
  have hf : andNot64 (([(8 : Int), (32 : Int), (40 : Int), (0 : Int)] : List Int).getD f.toNat (0 : Int)) 56 = 0 ∧ and64 ((iu8 (([(8 : Int), (32 : Int), (40 : Int), (0 : Int)] : List Int).getD f.toNat (0 : Int))).toNat : Int) 56 = ([(8 : Int), (32 : Int), (40 : Int), (0 : Int)] : List Int).getD f.toNat (0 : Int) := by
    obtain ⟨n, rfl⟩ := Int.eq_ofNat_of_zero_le f0
    have : n < 4 := by omega
    rw [Int.toNat_natCast]
    clear e4 f0 f1
    revert n
    decide
  generalize ([(8 : Int), (32 : Int), (40 : Int), (0 : Int)] : List Int).getD f.toNat (0 : Int) = fl at hf
  have fin : ∀ (id : UInt32) (d : List UInt8 × (Int × Unit)), COk d → (34 + x = 34 → id = 0) → ∃ h c', make_Codes_Header_1 N d (0, 0, 0, 0, 0, 0, ()) (a, b, 0, 34 + x, fl, id, ()) = some ((h, ()), (c', ())) ∧ COk c' ∧ HOk h := by
    intro id d hd hid
    have fin2 : ∀ a' : UInt64, ¬ a' = 0 → ∃ h c', make_Codes_Header_2 N d (0, 0, 0, 0, 0, 0, ()) (a', b, 0, 34 + x, fl, id, ()) = some ((h, ()), (c', ())) ∧ COk c' ∧ HOk h := by
      intro a' ha
      have fin3 : ∀ b' : UInt64, (¬ 34 + x = 34 → ¬ b' = 0) → HOk (a', b', 0, 34 + x, fl, id, ()) := fun b' hb =>
        ⟨rfl, fun k h0 h1 => hcheck_zero (h := (a', b', k, 34 + x, fl, id, ())) ha (show 34 ≤ 34 + x by omega) (show 34 + x ≤ 37 by omega) h0 h1 hf.1 hb hid, hf.2, show 34 ≤ 34 + x by omega, show 34 + x ≤ 37 by omega⟩
      unfold make_Codes_Header_2 make_Codes_Header_3
      by_cases hb : b = 0
      · rw [dpos hb]
        by_cases hx : 34 + x = 34
        · rw [dpos hx]; exact ⟨_, _, rfl, hd, fin3 _ (fun h => absurd hx h)⟩
        · rw [dneg hx]; exact ⟨_, _, rfl, hd, fin3 2 (fun _ => by decide)⟩
      · rw [dneg hb]; exact ⟨_, _, rfl, hd, fin3 _ (fun _ => hb)⟩
    unfold make_Codes_Header_1
    by_cases ha : a = 0
    · rw [dpos ha]; exact fin2 1 (by decide)
    · rw [dneg ha]; exact fin2 a ha
  by_cases hx : 34 + x = 34
  · rw [dpos hx]; exact fin 0 c4 k4 (fun _ => rfl)
  · obtain ⟨y, c5, e5, _, _, k5⟩ := next_ok N (n := 256) k4 (by omega)
    rw [dneg hx]
    simp only [Bool.not_false, cond_true, e5, Option.bind_some]
    exact fin _ c5 k5 (fun h => absurd h hx)
theorem draw_ok (N : Nat) (hN : 4611686018427387904 ≤ N) {c : List UInt8 × (Int × Unit)} (hc : COk c) : ∃ h c' k b, law17_draw N c = some ((h, ()), (c', k, b, ())) ∧ COk c' ∧ HOk h ∧ k.length = 36 ∧ b.length < 80 := by
  unfold law17_draw
  obtain ⟨h, c1, e1, k1, hh⟩ := header_ok N hN hc
  obtain ⟨c2, k, e2, l2, k2⟩ := bytes_ok (N := N) (n := 36) k1 (by omega) (by omega) (by omega)
  obtain ⟨n, c3, e3, n0, n1, k3⟩ := next_ok N (n := 80) k2 (by omega)
  obtain ⟨c4, b, e4, l4, k4⟩ := bytes_ok (N := N) (n := n) k3 n0 (by omega) (by omega)
  simp only [e1, e2, e3, e4, Option.bind_some]
  exact ⟨_, _, _, _, rfl, k4, hh, l2, by omega⟩
noncomputable section
/-- The first 32 bytes of a message and what stands between. -/
def sdat (h : Hd) (kind first : Int) (m : List UInt8) (n : Int) : List UInt8 := hbytes (hset h kind) n ++ [iu8 first, 0] ++ be (iu64 (n - 28)) 2 ++ m
def scip (d inner key : List UInt8) (iv : UInt64) : List UInt8 := cx (key.take 32) 1 (key.drop 32 ++ be iv 8) (inner ++ [0]) ++ atag (key.take 32) (key.drop 32 ++ be iv 8) d (cx (key.take 32) 1 (key.drop 32 ++ be iv 8) (inner ++ [0]))
def swrite (h : Hd) (kind first : Int) (m inner key : List UInt8) (iv : UInt64) : List UInt8 × Int :=
  if 8192 < 57 + m.length + inner.length then ([], 11) else if ¬ hcheck (hset h kind) = 0 then ([], hcheck (hset h kind)) else
    (sdat h kind first m ((57 + m.length + inner.length : Nat) : Int) ++ be iv 8 ++ scip (sdat h kind first m ((57 + m.length + inner.length : Nat) : Int)) inner key iv, 0)
theorem sdat_len (h : Hd) (kind first : Int) (m : List UInt8) (n : Int) : (sdat h kind first m n).length = 32 + m.length := by
  simp [sdat, hbytes_len, be_len]; omega
theorem scip_len (d inner key : List UInt8) (iv : UInt64) : (scip d inner key iv).length = inner.length + 17 := by
  simp [scip, cx_len, atag_len]
theorem swrite_full {h : Hd} {kind first : Int} {m inner key : List UInt8} {iv : UInt64} (h1 : 57 + m.length + inner.length ≤ 8192) (h2 : hcheck (hset h kind) = 0) : swrite h kind first m inner key iv =
    (sdat h kind first m ((57 + m.length + inner.length : Nat) : Int) ++ be iv 8 ++ scip (sdat h kind first m ((57 + m.length + inner.length : Nat) : Int)) inner key iv, 0) := by
  unfold swrite
  rw [if_neg (by omega), if_neg (not_not_intro h2)]
section
variable (N : Nat) (hN : 4611686018427387904 ≤ N)
include hN
theorem write_ok (h : Hd) (kind first : Int) {m inner key : List UInt8} (iv : UInt64) (hm : m.length ≤ 1000) (hi : inner.length ≤ 140737488350000) (hk : key.length = 36) :
    sealed_write N h kind first m inner key iv = some (((swrite h kind first m inner key iv).2, ()), ((swrite h kind first m inner key iv).1, ())) := by
  unfold sealed_write swrite
  have ew : w64 ((w64 ((w64 ((w64 ((w64 ((4 : Int) + (m.length : Int))) + (8 : Int))) + (inner.length : Int))) + (1 : Int))) + (16 : Int)) = ((29 + m.length + inner.length : Nat) : Int) := by
    simp (disch := omega) only [w64_of]; omega
  have ew2 : w64 ((28 : Int) + ((29 + m.length + inner.length : Nat) : Int)) = ((57 + m.length + inner.length : Nat) : Int) := by rw [w64_of (by omega) (by omega)]; omega
  simp only [ew, ew2]
  by_cases h1 : 8192 < 57 + m.length + inner.length
  · rw [dpos (by omega), if_pos h1]; rfl
  rw [dneg (by omega), if_neg h1, cond_false]
  show Option.bind (header_Build N (hset h kind) _) _ = _
  rw [hbuild_ok N (by omega)]
  simp only [Option.bind_some]
  unfold hbuild
  by_cases h2 : hcheck (hset h kind) = 0
  · rw [if_neg (not_not_intro h2), if_neg (not_not_intro h2), if_neg (by omega)]
    have l1 := hbytes_len (hset h kind) ((57 + m.length + inner.length : Nat) : Int)
    have e3 : sdat h kind first m ((57 + m.length + inner.length : Nat) : Int) = hbytes (hset h kind) ((57 + m.length + inner.length : Nat) : Int) ++ [iu8 first, 0] ++ be (iu64 ((29 + m.length + inner.length : Nat) : Int)) 2 ++ m := by
      unfold sdat
      rw [show ((57 + m.length + inner.length : Nat) : Int) - 28 = ((29 + m.length + inner.length : Nat) : Int) by omega]
    have c1 : cut key 0 32 = key.take 32 := by simp [cut]
    have c2 : cut key 32 key.length = key.drop 32 := by simp [cut]
    have ls := sdat_len h kind first m ((57 + m.length + inner.length : Nat) : Int)
    rw [e3] at ls ⊢
    generalize hbytes (hset h kind) ((57 + m.length + inner.length : Nat) : Int) = hb at *
    have l3 : (hb ++ [iu8 first, 0]).length = 30 := by simp [l1]
    have l4 : (hb ++ [iu8 first, 0] ++ be (iu64 ((29 + m.length + inner.length : Nat) : Int)) 2).length = 32 := by rw [List.length_append, l3, be_len]
    have l5 : (key.drop 32).length = 4 := by simp; omega
    have l6 := be_len iv 8
    have l7 : (inner ++ [(0 : UInt8)]).length = inner.length + 1 := by simp
    rw [decide_eq_true (show (0 : Int) = 0 from rfl)]
    simp only [Bool.not_true, cond_false]
    rw [room_of (by simp [l1]), cond_true, wire_put N (by omega) (by omega) (by omega) (by omega)]
    simp only [Option.bind_some]
    rw [show (2 : Int).toNat = 2 from rfl, room_of (by omega), cond_true, wire_put N (by omega) (by omega) (by simp) (by omega)]
    simp only [Option.bind_some]
    rw [show (8 : Int).toNat = 8 from rfl, room_of (by omega), room_of (by simp; omega), dpos (show (0 : Int) ≤ 0 by omega), dpos (show (0 : Int) ≤ 32 by omega), dpos (show (32 : Int) ≤ (key.length : Int) by omega)]
    simp only [Bool.and_self, cond_true, List.nil_append]
    unfold sealed_nonce
    rw [dpos (show (0 : Int) ≤ 32 by omega), dpos (show (32 : Int) ≤ (key.length : Int) by omega), dpos (show (key.length : Int) ≤ (key.length : Int) by omega)]
    simp only [Bool.and_self, cond_true]
    rw [c2, room_of (by omega), room_of (by omega)]
    simp only [cond_true, Option.bind_some, c1]
    have hse := seal_ok N hN (k := key.take 32) (n := key.drop 32 ++ be iv 8) (d := hb ++ [iu8 first, 0] ++ be (iu64 ((29 + m.length + inner.length : Nat) : Int)) 2 ++ m) (c := inner ++ [0]) (by omega) (by omega) (by simp; omega) (by rw [List.length_append, l5, l6])
    rw [hse]
    simp only [Option.bind_some]
    have l8 : (cx (key.take 32) 1 (key.drop 32 ++ be iv 8) (inner ++ [0])).length = inner.length + 1 := by rw [cx_len, l7]
    have lx : (hb ++ [iu8 first, 0] ++ be (iu64 ((29 + m.length + inner.length : Nat) : Int)) 2 ++ m ++ be iv 8).length = 40 + m.length := by rw [List.length_append, ls, l6]; omega
    rw [room_of (by rw [ls, l6]; omega), room_of (by rw [lx, List.length_append, l8, atag_len]; omega)]
    rfl
  · rw [if_pos h2, if_pos h2, dneg h2]; rfl
end
/-- What is asked first. -/
def scheck (h : Hd) (key : List UInt8) (first : Int) : Int := if ¬ key.length = 36 then 13 else if ¬ hcheck (hset h 46) = 0 then hcheck (hset h 46) else if first < 0 ∨ 255 < first then 5 else 0
theorem check_ok (N : Nat) (h : Hd) (key : List UInt8) (first : Int) : sealed_check N h key first = some ((scheck h key first, ()), ()) := by
  unfold sealed_check scheck
  by_cases h1 : key.length = 36
  · rw [if_neg (not_not_intro h1), dpos (by omega)]
    show Option.bind (header_Check N (hset h 46)) _ = _
    rw [hcheck_ok]
    simp only [Option.bind_some]
    by_cases h2 : hcheck (hset h 46) = 0
    · rw [if_neg (not_not_intro h2), dpos h2]
      by_cases h3 : first < 0
      · rw [dpos h3, if_pos (.inl h3)]; rfl
      · by_cases h4 : 255 < first
        · rw [dneg h3, dpos h4, if_pos (.inr h4)]; rfl
        · rw [dneg h3, dneg h4, if_neg (fun h => h.elim h3 h4)]; rfl
    · rw [if_pos h2, dneg h2]; rfl
  · rw [if_pos h1, dneg (by omega)]; rfl
theorem scheck_len {h : Hd} {key : List UInt8} {first : Int} (e : scheck h key first = 0) : key.length = 36 := by
  unfold scheck at e
  by_cases h1 : key.length = 36
  · exact h1
  · rw [if_pos h1] at e; cases e
def sseal (h : Hd) (first : Int) (inner key : List UInt8) (iv : UInt64) : List UInt8 × Int := if ¬ scheck h key first = 0 then ([], scheck h key first) else swrite h 46 first [] inner key iv
section
variable (N : Nat) (hN : 4611686018427387904 ≤ N)
include hN
theorem sseal_ok (h : Hd) (first : Int) {inner : List UInt8} (key : List UInt8) (iv : UInt64) (hi : inner.length ≤ 140737488350000) : sealed_Seal N h first inner key iv = some (((sseal h first inner key iv).2, ()), ((sseal h first inner key iv).1, ())) := by
  unfold sealed_Seal sseal
  rw [check_ok]
  simp only [Option.bind_some]
  by_cases h1 : scheck h key first = 0
  · rw [if_neg (not_not_intro h1), dpos h1, write_ok N hN h 46 first iv (by simp) hi (scheck_len h1)]; rfl
  · rw [if_pos h1, dneg h1]; rfl
end
end
end Go.Proofs.YtofajgidjkjnpaaDoor.Pl

/- Plain: a message in parts, by the reference. -/
namespace Go.Proofs.YtofajgidjkjnpaaDoor.Pl
open Go
noncomputable section
def smid (i total : Nat) : List UInt8 := be (iu64 ((i : Int) + 1)) 2 ++ be (iu64 (total : Int)) 2
theorem smid_len (i total : Nat) : (smid i total).length = 4 := by simp [smid, be_len]
def stotal (len size : Nat) : Nat := max 1 ((len + size - 1) / size)
def swr (h : Hd) (first : Int) (inner key : List UInt8) (iv : UInt64) (size total i : Nat) : List UInt8 × Int :=
  swrite h 53 (if i = 0 then first else 0) (smid i total) (cut inner (i * size) (min inner.length ((i + 1) * size))) key (iv + iu64 (i : Int))
def ssplit (h : Hd) (first : Int) (inner key : List UInt8) (iv : UInt64) (size : Int) : List (List UInt8) × Int :=
  if ¬ scheck h key first = 0 then ([], scheck h key first) else if size < 1 ∨ 4096 < size then ([], 5) else if 16 < stotal inner.length size.toNat then ([], 10) else
    match firstAt (fun i => !(decide ((swr h first inner key iv size.toNat (stotal inner.length size.toNat) i).2 = 0))) 0 (stotal inner.length size.toNat) with
    | some i => ([], (swr h first inner key iv size.toNat (stotal inner.length size.toNat) i).2)
    | none => ((List.range (stotal inner.length size.toNat)).map fun i => (swr h first inner key iv size.toNat (stotal inner.length size.toNat) i).1, 0)
section
variable (N : Nat) (hN : 4611686018427387904 ≤ N)
include hN
end
end
end Go.Proofs.YtofajgidjkjnpaaDoor.Pl

/- Plain: a message in parts, by the program. -/
namespace Go.Proofs.YtofajgidjkjnpaaDoor.Pl
open Go
theorem chunks_len (x : List UInt8) (k : Nat) : (chunks x k).length = (x.length + k - 1) / k := by simp [chunks]
theorem chunks_get (x : List UInt8) (k : Nat) {i : Nat} (h : i < (x.length + k - 1) / k) : (chunks x k).getD i [] = cut x (i * k) (min x.length ((i + 1) * k)) := by
  simp [chunks, List.getD, h]
section
variable (N : Nat) (hN : 4611686018427387904 ≤ N)
include hN
theorem psplit_5 (h : Hd) (first : Int) {inner : List UInt8} (key : List UInt8) (iv : UInt64) {z t : Nat} (hz : 1 ≤ z) (hz2 : z ≤ 4096) (hi : inner.length ≤ 100000) (hk : key.length = 36) (ht : t ≤ 16) {P : List (List UInt8)} (hP : P.length = t)
    (hPg : ∀ i, i < t → P.getD i [] = cut inner (i * z) (min inner.length ((i + 1) * z))) :
    sealed_Split_5 N first key iv P P (P.length : Int) 0 h [] = match firstAt (fun i => !(decide ((swr h first inner key iv z t i).2 = 0))) 0 t with
      | some i => some (((swr h first inner key iv z t i).2, ()), ([], ()))
      | none => some ((0, ()), ((List.range t).map fun i => (swr h first inner key iv z t i).1, ())) := by
  unfold sealed_Split_5
  have step : ∀ i : Nat, i < t → sealed_Split_s6 N (if i = 0 then first else 0) key iv P P (t : Int) (i : Int) h ((List.range i).map fun i => (swr h first inner key iv z t i).1) =
      bif (!(decide ((swr h first inner key iv z t i).2 = 0))) then some (.rt (((swr h first inner key iv z t i).2, ()), ([], ()))) else
        some (.go (((if i + 1 = 0 then first else 0), key, iv, P, P, (t : Int), ((i + 1 : Nat) : Int), ()), (h, ((List.range (i + 1)).map fun i => (swr h first inner key iv z t i).1), ()))) := by
    intro i hlt
    have hm1 : i * z ≤ 16 * 4096 := Nat.mul_le_mul (by omega) (by omega)
    have e1 : w64 ((i : Int) + 1) = (i : Int) + 1 := w64_of (by omega) (by omega)
    have lm := smid_len i t
    have lc : (cut inner (i * z) (min inner.length ((i + 1) * z))).length ≤ inner.length := by simp [cut]; omega
    have lo : (((List.range i).map fun i => (swr h first inner key iv z t i).1).length) = i := by simp
    have eo : ((List.range (i + 1)).map fun i => (swr h first inner key iv z t i).1) = ((List.range i).map fun i => (swr h first inner key iv z t i).1) ++ [(swr h first inner key iv z t i).1] := by rw [List.range_succ, List.map_append]; rfl
    rw [eo]
    have ew : swr h first inner key iv z t i = swrite h 53 (if i = 0 then first else 0) (smid i t) (cut inner (i * z) (min inner.length ((i + 1) * z))) key (iv + iu64 (i : Int)) := rfl
    rw [ew]
    generalize ((List.range i).map fun i => (swr h first inner key iv z t i).1) = out at *
    unfold sealed_Split_s6
    rw [dpos (show (i : Int) < (t : Int) by omega), cond_true, inR_of (by omega) (by omega), cond_true]
    have em : wire_Put N (iu64 ((i : Int) + 1)) 2 [] = some ((), (be (iu64 ((i : Int) + 1)) 2, ())) := by
      rw [wire_put N (by omega) (by omega) (by simp) (by omega)]; rfl
    have em2 : wire_Put N (iu64 (P.length : Int)) 2 (be (iu64 ((i : Int) + 1)) 2) = some ((), (smid i t, ())) := by
      rw [hP, wire_put N (by omega) (by omega) (by simp [be_len]) (by omega)]; rfl
    simp only [e1, em, em2, Option.bind_some, Int.toNat_natCast, hPg i hlt]
    rw [write_ok N hN h 53 _ _ (by omega) (by omega) hk]
    simp only [Option.bind_some]
    have er : room (out.length + 1) 24 = true := room_of (by omega)
    rw [show ([(swrite h 53 (if i = 0 then first else 0) (smid i t) (cut inner (i * z) (min inner.length ((i + 1) * z))) key (iv + iu64 (i : Int))).1] : List (List UInt8)).length = 1 from rfl, er, cond_true, if_neg (Nat.succ_ne_zero i)]
    rfl
  rw [hP]
  refine (loopK_find (fun i : Nat => (((if i = 0 then first else 0), key, iv, P, P, (t : Int), (i : Int), ()), (h, ((List.range i).map fun i => (swr h first inner key iv z t i).1), ()))) (fun i => !(decide ((swr h first inner key iv z t i).2 = 0))) (fun i => (((swr h first inner key iv z t i).2, ()), ([], ()))) (n := t) (e := ((), ((List.range t).map fun i => (swr h first inner key iv z t i).1, ()))) ?_ ?_ ?_ (by omega)).trans ?_
  · intro i hlt hq
    show sealed_Split_s6 N _ key iv P P (t : Int) (i : Int) h _ = _
    rw [step i hlt, hq]; rfl
  · intro i hlt hq
    show sealed_Split_s6 N _ key iv P P (t : Int) (i : Int) h _ = _
    rw [step i hlt, hq]; rfl
  · show sealed_Split_s6 N _ key iv P P (t : Int) (t : Int) h _ = _
    unfold sealed_Split_s6
    rw [dneg (show ¬ (t : Int) < (t : Int) by omega)]; rfl
  · cases firstAt (fun i => !(decide ((swr h first inner key iv z t i).2 = 0))) 0 t <;> rfl
theorem psplit_ok (h : Hd) (first : Int) {inner : List UInt8} (key : List UInt8) (iv : UInt64) (size : Int) (hi : inner.length ≤ 100000) :
    sealed_Split N h first inner key iv size = some (((ssplit h first inner key iv size).2, ()), ((ssplit h first inner key iv size).1, ())) := by
  unfold sealed_Split ssplit
  rw [check_ok]
  simp only [Option.bind_some]
  by_cases h1 : scheck h key first = 0
  · rw [if_neg (not_not_intro h1), dpos h1]
    simp only [Bool.not_true, cond_false]
    unfold sealed_Split_1
    by_cases h2 : size < 1
    · rw [if_pos (.inl h2), dpos h2]; rfl
    by_cases h3 : 4096 < size
    · rw [if_pos (.inr h3), dneg h2, dpos h3]; rfl
    rw [if_neg (by omega), dneg h2, dneg h3]
    simp only [cond_false]
    obtain ⟨z, rfl⟩ := Int.eq_ofNat_of_zero_le (show 0 ≤ size by omega)
    have hk := scheck_len h1
    unfold sealed_Split_2
    rw [dpos (show (1 : Int) ≤ (z : Int) by omega), dpos (show (z : Int) ≤ 4096 by omega), dpos (show inner.length ≤ 1000000 by omega)]
    simp only [Bool.and_self, cond_true, Int.toNat_natCast]
    have hcl := chunks_len inner z
    have hcg := fun i => chunks_get inner z (i := i)
    have key4 : ∀ P : List (List UInt8), P.length = stotal inner.length z → (∀ i, i < stotal inner.length z → P.getD i [] = cut inner (i * z) (min inner.length ((i + 1) * z))) →
        sealed_Split_4 N first key iv P h = some (((if 16 < stotal inner.length z then (([], 10) : List (List UInt8) × Int) else match firstAt (fun i => !(decide ((swr h first inner key iv z (stotal inner.length z) i).2 = 0))) 0 (stotal inner.length z) with
          | some i => ([], (swr h first inner key iv z (stotal inner.length z) i).2)
          | none => ((List.range (stotal inner.length z)).map fun i => (swr h first inner key iv z (stotal inner.length z) i).1, 0)).2, ()), ((if 16 < stotal inner.length z then (([], 10) : List (List UInt8) × Int) else match firstAt (fun i => !(decide ((swr h first inner key iv z (stotal inner.length z) i).2 = 0))) 0 (stotal inner.length z) with
          | some i => ([], (swr h first inner key iv z (stotal inner.length z) i).2)
          | none => ((List.range (stotal inner.length z)).map fun i => (swr h first inner key iv z (stotal inner.length z) i).1, 0)).1, ())) := by
      intro P hP hPg
      unfold sealed_Split_4
      generalize stotal inner.length z = t at *
      by_cases h5 : 16 < t
      · rw [if_pos h5, dpos (show (16 : Int) < (P.length : Int) by omega)]; rfl
      · rw [if_neg h5, dneg (show ¬ (16 : Int) < (P.length : Int) by omega), cond_false, psplit_5 N hN h first key iv (by omega) (by omega) hi hk (by omega) hP hPg]
        cases firstAt (fun i => !(decide ((swr h first inner key iv z t i).2 = 0))) 0 t <;> rfl
    unfold sealed_Split_3
    by_cases h0 : (chunks inner z).length = 0
    · rw [dpos (show ((chunks inner z).length : Int) = 0 by omega), cond_true]
      have ht : stotal inner.length z = 1 := by unfold stotal; omega
      have hil : inner.length = 0 := by
        rcases Nat.eq_zero_or_pos inner.length with h | h
        · exact h
        · have : 1 ≤ (inner.length + z - 1) / z := (Nat.le_div_iff_mul_le (by omega)).2 (by omega)
          omega
      obtain rfl : inner = [] := List.eq_nil_of_length_eq_zero hil
      refine key4 _ (by rw [ht]; rfl) (fun i hi => ?_)
      obtain rfl : i = 0 := by omega
      simp [cut]
    · rw [dneg (show ¬ ((chunks inner z).length : Int) = 0 by omega), cond_false]
      have ht : stotal inner.length z = (inner.length + z - 1) / z := by unfold stotal; omega
      exact key4 _ (by rw [ht]; exact hcl) (fun i hi => hcg i (by omega))
  · rw [if_pos h1, dneg h1]; rfl
end
end Go.Proofs.YtofajgidjkjnpaaDoor.Pl

/- Plain: what is written is opened again. -/
namespace Go.Proofs.YtofajgidjkjnpaaDoor.Pl
open Go
theorem aopen_seal {k n : List UInt8} (hk : keyed k n = true) (d x : List UInt8) : aopen k n d (cx k 1 n x ++ atag k n d (cx k 1 n x)) = (x, 0) := by
  unfold aopen
  have hl : (cx k 1 n x ++ atag k n d (cx k 1 n x)).length = (cx k 1 n x).length + 16 := by rw [List.length_append, atag_len]
  rw [if_neg (by rw [hk]; decide), if_neg (by omega), hl, Nat.add_sub_cancel, List.take_left, List.drop_left, if_pos rfl, cx_twice]
theorem getD_drop {l : List UInt8} {k i : Nat} : l.getD (k + i) 0 = (l.drop k).getD i 0 := by simp [List.getD, List.getElem?_drop]
theorem iu8_i {n : Int} (h0 : 0 ≤ n) (h1 : n < 256) : ((iu8 n).toNat : Int) = n := by
  obtain ⟨m, rfl⟩ := Int.eq_ofNat_of_zero_le h0
  show ((BitVec.ofInt 8 (m : Int)).toNat : Int) = _
  rw [BitVec.toNat_ofInt]; omega
theorem hread_back {h : Hd} (hh : HOk h) {k : Int} (k0 : 0 ≤ k) (k1 : k < 256) (n : Int) (r : List UInt8) : hread (hbytes (hset h k) n ++ r) = hset h k ∧ (hbytes (hset h k) n ++ r).drop 24 = be (iu64 n) 4 ++ r ∧ (hbytes (hset h k) n ++ r).getD 17 0 = 32 := by
  obtain ⟨h1, h2, h3, ex, fl, id, _⟩ := h
  obtain ⟨_, _, hf, x0, x1⟩ := hh
  have e : hbytes (hset (h1, h2, h3, ex, fl, id, ()) k) n ++ r = be h1 8 ++ (be h2 8 ++ ([iu8 k, 32, iu8 ex, iu8 fl] ++ (be id.toUInt64 4 ++ (be (iu64 n) 4 ++ r)))) := by simp [hbytes, hset, List.append_assoc]
  rw [e]
  generalize hL : be h1 8 ++ (be h2 8 ++ ([iu8 k, 32, iu8 ex, iu8 fl] ++ (be id.toUInt64 4 ++ (be (iu64 n) 4 ++ r)))) = L
  have t8 : L.take 8 = be h1 8 := by rw [← hL]; exact List.take_left' (be_len _ _)
  have d8 : L.drop 8 = be h2 8 ++ ([iu8 k, 32, iu8 ex, iu8 fl] ++ (be id.toUInt64 4 ++ (be (iu64 n) 4 ++ r))) := by rw [← hL]; exact List.drop_left' (be_len _ _)
  have d16 : L.drop 16 = [iu8 k, 32, iu8 ex, iu8 fl] ++ (be id.toUInt64 4 ++ (be (iu64 n) 4 ++ r)) := by
    rw [show 16 = 8 + 8 from rfl, ← List.drop_drop, d8]; exact List.drop_left' (be_len _ _)
  have d20 : L.drop 20 = be id.toUInt64 4 ++ (be (iu64 n) 4 ++ r) := by
    rw [show 20 = 16 + 4 from rfl, ← List.drop_drop, d16]; rfl
  have d24 : L.drop 24 = be (iu64 n) 4 ++ r := by
    rw [show 24 = 20 + 4 from rfl, ← List.drop_drop, d20]; exact List.drop_left' (be_len _ _)
  have g : ∀ i, L.getD (16 + i) 0 = ([iu8 k, 32, iu8 ex, iu8 fl] ++ (be id.toUInt64 4 ++ (be (iu64 n) 4 ++ r))).getD i 0 := fun i => by rw [getD_drop, d16]
  have g0 : L.getD 16 0 = iu8 k := g 0
  have g1 : L.getD 17 0 = 32 := g 1
  have g2 : L.getD 18 0 = iu8 ex := g 2
  have g3 : L.getD 19 0 = iu8 fl := g 3
  refine ⟨?_, d24, g1⟩
  have x0 : 34 ≤ ex := x0
  have x1 : ex ≤ 37 := x1
  have hf : and64 ((iu8 fl).toNat : Int) 56 = fl := hf
  have n1 : nbr (be h1 8) = h1 := nbr_be' (by omega) h1 h1.toNat_lt
  have n2 : nbr (be h2 8) = h2 := nbr_be' (by omega) h2 h2.toNat_lt
  have hid : id.toUInt64.toNat < 256 ^ 4 := by rw [UInt32.toNat_toUInt64]; exact id.toNat_lt
  have n3 : (nbr (be id.toUInt64 4)).toUInt32 = id := by
    rw [nbr_be' (by omega) _ hid]; exact UInt32.toUInt32_toUInt64 id
  show (nbr (L.take 8), nbr ((L.drop 8).take 8), ((L.getD 16 0).toNat : Int), ((L.getD 18 0).toNat : Int), and64 ((L.getD 19 0).toNat : Int) 56, (nbr ((L.drop 20).take 4)).toUInt32, ()) = (h1, h2, k, ex, fl, id, ())
  rw [t8, d8, d20, g0, g2, g3, List.take_left' (be_len _ _), List.take_left' (be_len _ _), n1, n2, n3, hf, iu8_i k0 k1, iu8_i (by omega) (by omega)]
/-- A message that begins so is read as its header, and what stands behind. -/
theorem sread_back {h : Hd} (hh : HOk h) {kind first : Int} (k0 : 0 ≤ kind) (k1 : kind < 256) (f0 : 0 ≤ first) (f1 : first < 256) {key : List UInt8} (hk : key.length = 36) {n : Nat} (hn : n ≤ 8192) {r y : List UInt8}
    (hy : y = hbytes (hset h kind) (n : Int) ++ ([iu8 first, 0] ++ (be (iu64 ((n : Int) - 28)) 2 ++ r))) (hl : y.length = n) : sread y key kind = (hset h kind, first, r, 0) ∧ y.drop 32 = r := by
  obtain ⟨p1, p2, p3⟩ := hread_back hh k0 k1 (n : Int) ([iu8 first, 0] ++ (be (iu64 ((n : Int) - 28)) 2 ++ r))
  rw [← hy] at p1 p2 p3
  have lb := hbytes_len (hset h kind) (n : Int)
  have hln : n = 32 + r.length := by rw [← hl, hy]; simp [lb, be_len]; omega
  have d28 : y.drop 28 = [iu8 first, 0] ++ (be (iu64 ((n : Int) - 28)) 2 ++ r) := by rw [hy]; exact List.drop_left' lb
  have d32 : y.drop 32 = r := by
    rw [show 32 = 28 + 4 from rfl, ← List.drop_drop, d28, ← List.append_assoc]
    exact List.drop_left' (by simp [be_len])
  have hp : hparse y = (hset h kind, 0) := by
    unfold hparse
    have hver : shr8 (32 : UInt8) 4 = 2 := by decide
    have hnn : nbr ((y.drop 24).take 4) = iu64 (y.length : Int) := by
      rw [p2, List.take_left' (be_len _ _), hl]
      exact nbr_be' (by omega) _ (by rw [iu64_nat (by omega)]; omega)
    rw [if_neg (by omega), p3, if_neg (not_not_intro hver), if_neg (not_not_intro hnn), p1, if_neg (not_not_intro (hh.2.1 kind k0 (by omega)))]
  have hc : cbody (y.drop 28) = (r, first, 0) := by
    have l28 : (y.drop 28).length = n - 28 := by rw [List.length_drop, hl]
    have hnb : (nbr (((y.drop 28).drop 2).take 2)).toNat = n - 28 := by
      rw [d28]
      have : (([iu8 first, (0 : UInt8)] ++ (be (iu64 ((n : Int) - 28)) 2 ++ r)).drop 2).take 2 = be (iu64 ((n : Int) - 28)) 2 := by
        rw [List.drop_left' (show ([iu8 first, (0 : UInt8)] : List UInt8).length = 2 from rfl)]; exact List.take_left' (be_len _ _)
      rw [this, show (n : Int) - 28 = ((n - 28 : Nat) : Int) by omega, nbr_be' (by omega) _ (by rw [iu64_nat (by omega)]; omega), iu64_nat (by omega)]
    have hg : (y.drop 28).getD 0 0 = iu8 first := by rw [d28]; rfl
    have hr : (y.drop 28).drop 4 = r := by rw [List.drop_drop]; exact d32
    unfold cbody
    rw [if_neg (by omega), hnb, if_neg (by omega), if_neg (by omega), hg, hr, iu8_i f0 f1]
  refine ⟨?_, d32⟩
  unfold sread
  rw [if_neg (not_not_intro hk), hp, if_neg (by simp), hc]
  show (if ¬ kind = kind then _ else _) = _
  rw [if_neg (by simp), if_neg (by simp)]
theorem sparse_back {h : Hd} (hh : HOk h) {kind first least : Int} (k0 : 0 ≤ kind) (k1 : kind < 256) (f0 : 0 ≤ first) (f1 : first < 256) {key : List UInt8} (hk : key.length = 36) {n : Nat} (hn : n ≤ 8192) {r y : List UInt8}
    (hy : y = hbytes (hset h kind) (n : Int) ++ ([iu8 first, 0] ++ (be (iu64 ((n : Int) - 28)) 2 ++ r))) (hl : y.length = n) (hle : least ≤ (r.length : Int)) : sparse y key kind least = (hset h kind, first, r, 0) := by
  obtain ⟨q, _⟩ := sread_back hh k0 k1 f0 f1 hk hn hy hl
  unfold sparse
  rw [q, if_neg (fun h => by have := h.2; simp only at this; omega)]
theorem supad_back (p : List UInt8) : supad (p ++ [0]) = (p, 0) := by
  unfold supad
  have hl : (p ++ [(0 : UInt8)]).length = p.length + 1 := by simp
  have hg : (p ++ [(0 : UInt8)]).getD p.length 0 = 0 := by simp [List.getD]
  rw [hl, Nat.add_sub_cancel, hg, if_neg (by simp)]
  simp
/-- A written message, in its pieces. -/
theorem write_form (h : Hd) (kind first : Int) (m inner key : List UInt8) (iv : UInt64) (n : Nat) : sdat h kind first m (n : Int) ++ be iv 8 ++ scip (sdat h kind first m (n : Int)) inner key iv =
    hbytes (hset h kind) (n : Int) ++ ([iu8 first, 0] ++ (be (iu64 ((n : Int) - 28)) 2 ++ (m ++ (be iv 8 ++ scip (sdat h kind first m (n : Int)) inner key iv)))) := by
  rw [show sdat h kind first m (n : Int) ++ be iv 8 ++ scip (sdat h kind first m (n : Int)) inner key iv = sdat h kind first m (n : Int) ++ (be iv 8 ++ scip (sdat h kind first m (n : Int)) inner key iv) from List.append_assoc ..]
  generalize be iv 8 ++ scip (sdat h kind first m (n : Int)) inner key iv = s
  unfold sdat
  simp [List.append_assoc]
theorem sopn_back {h : Hd} {kind first : Int} {m inner key : List UInt8} {iv : UInt64} {n : Nat} (hk : key.length = 36) :
    sopn (sdat h kind first m (n : Int) ++ be iv 8 ++ scip (sdat h kind first m (n : Int)) inner key iv) key (32 + m.length) = (inner ++ [0], 0) := by
  unfold sopn
  have ls := sdat_len h kind first m (n : Int)
  have lv := be_len iv 8
  generalize hsd : sdat h kind first m (n : Int) = sd at *
  have e1 : (sd ++ be iv 8 ++ scip sd inner key iv).take (32 + m.length) = sd := by rw [List.append_assoc]; exact List.take_left' ls
  have e2 : ((sd ++ be iv 8 ++ scip sd inner key iv).drop (32 + m.length)).take 8 = be iv 8 := by
    rw [List.append_assoc, List.drop_left' ls]; exact List.take_left' lv
  have e3 : (sd ++ be iv 8 ++ scip sd inner key iv).drop (32 + m.length + 8) = scip sd inner key iv := List.drop_left' (by rw [List.length_append, ls, lv])
  rw [e1, e2, e3]
  unfold scip
  exact aopen_seal (keyed_iff.2 ⟨by simp; omega, by rw [List.length_append, List.length_drop, lv]; omega⟩) _ _
theorem open_back {h : Hd} (hh : HOk h) {first : Int} (f0 : 0 ≤ first) (f1 : first < 256) {inner key : List UInt8} (iv : UInt64) (hk : key.length = 36) (hi : inner.length < 80) :
    swrite h 46 first [] inner key iv = (sdat h 46 first [] ((57 + inner.length : Nat) : Int) ++ be iv 8 ++ scip (sdat h 46 first [] ((57 + inner.length : Nat) : Int)) inner key iv, 0) ∧
    (swrite h 46 first [] inner key iv).1.length = 57 + inner.length ∧ sopen (swrite h 46 first [] inner key iv).1 key = (hset h 46, first, inner, 0) := by
  have e := swrite_full (h := h) (kind := 46) (first := first) (m := []) (inner := inner) (key := key) (iv := iv) (by simp; omega) (hh.2.1 46 (by omega) (by omega))
  rw [List.length_nil, Nat.add_zero] at e
  have lx : (sdat h 46 first [] ((57 + inner.length : Nat) : Int) ++ be iv 8 ++ scip (sdat h 46 first [] ((57 + inner.length : Nat) : Int)) inner key iv).length = 57 + inner.length := by
    simp only [List.length_append, sdat_len, be_len, scip_len, List.length_nil]; omega
  refine ⟨e, by rw [e]; exact lx, ?_⟩
  rw [e]
  have hs := sparse_back (least := 25) hh (kind := 46) (by omega) (by omega) f0 f1 hk (n := 57 + inner.length) (by omega) (write_form h 46 first [] inner key iv (57 + inner.length)) lx (by simp only [List.length_append, be_len, scip_len, List.length_nil]; omega)
  have ho := sopn_back (h := h) (kind := 46) (first := first) (m := []) (inner := inner) (key := key) (iv := iv) (n := 57 + inner.length) hk
  rw [List.length_nil, Nat.add_zero] at ho
  unfold sopen
  simp only [hs, ho, supad_back]
  rw [if_neg (by simp), if_neg (by simp), if_neg (by simp)]
/-- A changed byte of the tag is told. -/
theorem open_changed {h : Hd} (hh : HOk h) {first : Int} (f0 : 0 ≤ first) (f1 : first < 256) {inner key : List UInt8} (iv : UInt64) (hk : key.length = 36) (hi : inner.length < 80) {by_ : UInt8} (hb : by_ ≠ 0) {q : Nat} (hq : q < 16) :
    sopen ((swrite h 46 first [] inner key iv).1.set (41 + inner.length + q) ((swrite h 46 first [] inner key iv).1.getD (41 + inner.length + q) 0 ^^^ by_)) key = (hnil, 0, [], 12) := by
  obtain ⟨e, lx, _⟩ := open_back hh f0 f1 iv hk hi
  rw [e] at lx ⊢
  simp only at lx ⊢
  have hwf := write_form h 46 first [] inner key iv (57 + inner.length)
  have ls := sdat_len h 46 first [] ((57 + inner.length : Nat) : Int)
  have lv := be_len iv 8
  generalize hsd : sdat h 46 first [] ((57 + inner.length : Nat) : Int) = sd at *
  have ls : sd.length = 32 := ls
  have hnon : (key.drop 32 ++ be iv 8).length = 12 := by rw [List.length_append, List.length_drop, lv]; omega
  have hkd : keyed (key.take 32) (key.drop 32 ++ be iv 8) = true := keyed_iff.2 ⟨by simp; omega, hnon⟩
  have hsc : scip sd inner key iv = cx (key.take 32) 1 (key.drop 32 ++ be iv 8) (inner ++ [0]) ++ atag (key.take 32) (key.drop 32 ++ be iv 8) sd (cx (key.take 32) 1 (key.drop 32 ++ be iv 8) (inner ++ [0])) := rfl
  have hxl := cx_len (key.take 32) 1 (key.drop 32 ++ be iv 8) (inner ++ [0])
  have htl := atag_len (key.take 32) (key.drop 32 ++ be iv 8) sd (cx (key.take 32) 1 (key.drop 32 ++ be iv 8) (inner ++ [0]))
  rw [hsc] at hwf lx ⊢
  generalize hC : cx (key.take 32) 1 (key.drop 32 ++ be iv 8) (inner ++ [0]) = C at *
  generalize hT : atag (key.take 32) (key.drop 32 ++ be iv 8) sd C = Tg at *
  have hCl : C.length = inner.length + 1 := by rw [hxl]; simp
  have hpre : (sd ++ be iv 8 ++ C).length = 41 + inner.length := by simp only [List.length_append, ls, lv, hCl]; omega
  have hx : sd ++ be iv 8 ++ (C ++ Tg) = (sd ++ be iv 8 ++ C) ++ Tg := by simp [List.append_assoc]
  have hg : (sd ++ be iv 8 ++ (C ++ Tg)).getD (41 + inner.length + q) 0 = Tg.getD q 0 := by
    rw [hx, List.getD_eq_getElem?_getD, List.getElem?_append_right (by omega), hpre, show 41 + inner.length + q - (41 + inner.length) = q by omega, ← List.getD_eq_getElem?_getD]
  have hse1 : (sd ++ be iv 8 ++ (C ++ Tg)).set (41 + inner.length + q) (Tg.getD q 0 ^^^ by_) = sd ++ be iv 8 ++ (C ++ Tg.set q (Tg.getD q 0 ^^^ by_)) := by
    rw [hx, List.set_append_right _ _ (by omega), hpre, show 41 + inner.length + q - (41 + inner.length) = q by omega]
    simp [List.append_assoc]
  rw [hg, hse1]
  obtain ⟨T', hT'⟩ : ∃ T', T' = Tg.set q (Tg.getD q 0 ^^^ by_) := ⟨_, rfl⟩
  have hT'l : T'.length = 16 := by rw [hT', List.length_set, htl]
  have hne : Tg ≠ T' := by
    intro e2
    have e3 := congrArg (fun l => l.getD q 0) e2
    simp only [hT'] at e3
    rw [List.getD_eq_getElem?_getD, List.getD_eq_getElem?_getD, List.getElem?_set_self (by omega)] at e3
    simp only [Option.getD_some] at e3
    apply hb
    have := congrArg (fun z => Tg.getD q 0 ^^^ z) e3
    simp only [List.getD_eq_getElem?_getD] at this
    simpa [← UInt8.xor_assoc] using this.symm
  rw [← hT']
  have hwf2 : sd ++ be iv 8 ++ (C ++ T') = hbytes (hset h 46) ((57 + inner.length : Nat) : Int) ++ ([iu8 first, 0] ++ (be (iu64 (((57 + inner.length : Nat) : Int) - 28)) 2 ++ ([] ++ (be iv 8 ++ (C ++ T'))))) := by
    rw [← hsd]
    unfold sdat
    simp [List.append_assoc]
  have lx2 : (sd ++ be iv 8 ++ (C ++ T')).length = 57 + inner.length := by simp only [List.length_append, ls, lv, hCl, hT'l]; omega
  have hs := sparse_back (least := 25) hh (kind := 46) (by omega) (by omega) f0 f1 hk (n := 57 + inner.length) (by omega) hwf2 lx2 (by simp only [List.length_append, lv, hCl, hT'l, List.length_nil]; omega)
  have ho : sopn (sd ++ be iv 8 ++ (C ++ T')) key 32 = ([], 12) := by
    unfold sopn
    have e1 : (sd ++ be iv 8 ++ (C ++ T')).take 32 = sd := by rw [List.append_assoc]; exact List.take_left' ls
    have e2 : ((sd ++ be iv 8 ++ (C ++ T')).drop 32).take 8 = be iv 8 := by rw [List.append_assoc, List.drop_left' ls]; exact List.take_left' lv
    have e3 : (sd ++ be iv 8 ++ (C ++ T')).drop (32 + 8) = C ++ T' := List.drop_left' (by rw [List.length_append, ls, lv])
    rw [e1, e2, e3]
    unfold aopen
    have hl : (C ++ T').length = C.length + 16 := by rw [List.length_append, hT'l]
    rw [if_neg (by rw [hkd]; decide), if_neg (by omega), hl, Nat.add_sub_cancel, List.take_left, List.drop_left, hT, if_neg hne]
  unfold sopen
  simp only [hs, ho]
  rw [if_neg (by simp), if_pos (by decide)]
/-- The parts that are written are parts that are read. -/
theorem part_back {h : Hd} (hh : HOk h) {first : Int} (f0 : 0 ≤ first) (f1 : first < 256) {inner key : List UInt8} (iv : UInt64) (hk : key.length = 36) (hi : inner.length < 80) {size t i : Nat} (ht : t ≤ 16) (hlt : i < t) :
    (swr h first inner key iv size t i).2 = 0 ∧ (swr h first inner key iv size t i).1.length ≤ 200 ∧
    spart (swr h first inner key iv size t i).1 key = (hset h 53, (((i + 1 : Nat) : Int), (t : Int), (if i = 0 then first else 0), cut inner (i * size) (min inner.length ((i + 1) * size)), ()), 0) := by
  unfold swr
  have lm := smid_len i t
  have lc : (cut inner (i * size) (min inner.length ((i + 1) * size))).length ≤ inner.length := by simp [cut]; omega
  generalize cut inner (i * size) (min inner.length ((i + 1) * size)) = p at *
  generalize iv + iu64 (i : Int) = v at *
  have g0 : 0 ≤ (if i = 0 then first else 0) := by split <;> omega
  have g1 : (if i = 0 then first else 0) < 256 := by split <;> omega
  have gne : ¬ i = 0 → (if i = 0 then first else 0) = 0 := fun h => if_neg h
  generalize (if i = 0 then first else 0) = f at *
  have e := swrite_full (h := h) (kind := 53) (first := f) (m := smid i t) (inner := p) (key := key) (iv := v) (by omega) (hh.2.1 53 (by omega) (by omega))
  rw [lm] at e
  rw [e]
  have lx : (sdat h 53 f (smid i t) ((57 + 4 + p.length : Nat) : Int) ++ be v 8 ++ scip (sdat h 53 f (smid i t) ((57 + 4 + p.length : Nat) : Int)) p key v).length = 57 + 4 + p.length := by
    simp only [List.length_append, sdat_len, be_len, scip_len, lm]; omega
  refine ⟨rfl, by simp only; rw [lx]; omega, ?_⟩
  simp only
  have hwf := write_form h 53 f (smid i t) p key v (57 + 4 + p.length)
  have hs := sparse_back (least := 29) hh (kind := 53) (by omega) (by omega) g0 g1 hk (n := 57 + 4 + p.length) (by omega) hwf lx (by simp only [List.length_append, be_len, scip_len, lm]; omega)
  have d32 := (sread_back hh (kind := 53) (by omega) (by omega) g0 g1 hk (n := 57 + 4 + p.length) (by omega) hwf lx).2
  have ho := sopn_back (h := h) (kind := 53) (first := f) (m := smid i t) (inner := p) (key := key) (iv := v) (n := 57 + 4 + p.length) hk
  rw [lm, show 32 + 4 = 36 from rfl] at ho
  generalize sdat h 53 f (smid i t) ((57 + 4 + p.length : Nat) : Int) ++ be v 8 ++ scip (sdat h 53 f (smid i t) ((57 + 4 + p.length : Nat) : Int)) p key v = y at *
  have hpn : pnum y = iu64 ((i : Int) + 1) := by
    unfold pnum
    rw [d32]
    unfold smid
    rw [List.append_assoc, List.take_left' (be_len _ _)]
    exact nbr_be' (by omega) _ (by rw [show (i : Int) + 1 = ((i + 1 : Nat) : Int) from rfl, iu64_nat (by omega)]; omega)
  have hpt : ptot y = iu64 (t : Int) := by
    unfold ptot
    rw [show 34 = 32 + 2 from rfl, ← List.drop_drop, d32]
    unfold smid
    rw [List.append_assoc, List.drop_left' (be_len _ _), List.take_left' (be_len _ _)]
    exact nbr_be' (by omega) _ (by rw [iu64_nat (by omega)]; omega)
  have t1 : (iu64 ((i : Int) + 1)).toNat = i + 1 := by rw [show (i : Int) + 1 = ((i + 1 : Nat) : Int) from rfl, iu64_nat (by omega)]
  have t2 : (iu64 (t : Int)).toNat = t := iu64_nat (by omega)
  unfold spart
  simp only [hs, ho, supad_back, hpn, hpt, t1, t2]
  have o0 : (0 : UInt64).toNat = 0 := rfl
  have o1 : (1 : UInt64).toNat = 1 := rfl
  have o16 : (16 : UInt64).toNat = 16 := rfl
  have c1 : ¬ (iu64 ((i : Int) + 1) = 0 ∨ iu64 (t : Int) < iu64 ((i : Int) + 1) ∨ 16 < iu64 (t : Int)) := by
    rw [← UInt64.toNat_inj, UInt64.lt_iff_toNat_lt, UInt64.lt_iff_toNat_lt, t1, t2, o0, o16]
    omega
  have c2 : ¬ (¬ f = 0 ∧ ¬ iu64 ((i : Int) + 1) = 1) := by
    rintro ⟨h1, h2⟩
    apply h1
    apply gne
    intro h3
    apply h2
    rw [← UInt64.toNat_inj, t1, o1, h3]
  rw [if_neg (by simp), if_neg c1, if_neg (by simp), if_neg c2, if_neg (by simp)]
end Go.Proofs.YtofajgidjkjnpaaDoor.Pl

/- Plain: parts are gathered and joined; the law SealedReturns. -/
namespace Go.Proofs.YtofajgidjkjnpaaDoor.Pl
open Go
theorem awake17 : law17_awake 18446744073709551616 = some ((true, ()), ()) := by kernel_rfl
theorem dqL_refl {α : Type} {f : α → α → Bool} (h : ∀ x, f x x = true) : ∀ l : List α, dqL f l l = true
  | [] => rfl
  | x :: l => by simp only [dqL, h x, dqL_refl h l, Bool.and_self]
theorem dq_refl : ∀ (t : Ty) (x : t.den), t.flat = true → dq t x x = true := by
  intro t
  induction t with
  | sl t ih => intro x h; simp [Ty.flat] at h
  | arr n t ih => intro x h; exact dqL_refl (fun y => ih y (by simpa [Ty.flat] using h)) x
  | pair a b iha ihb =>
    intro x h
    simp only [Ty.flat, Bool.and_eq_true] at h
    simp only [dq, iha _ h.1, ihb _ h.2, Bool.and_self]
  | unit => intro x _; rfl
  | _ => intro x _; simp only [dq, decide_true]
/-- The search by halves in an ordered list. -/
theorem bs_ok (N : Nat) (hN : 4611686018427387904 ≤ N) {l : List Fr} {tg : Int} {r : Nat} (hr : r ≤ l.length) (hl : l.length ≤ 1000) (hlt : ∀ j, j < r → (l.getD j fnil).1 < tg) (hge : ∀ j, r ≤ j → j < l.length → tg ≤ (l.getD j fnil).1)
    (hb : ∀ j, j < l.length → 0 ≤ (l.getD j fnil).1 ∧ (l.getD j fnil).1 ≤ 100) (t0 : 0 ≤ tg) (t1 : tg ≤ 100) :
    slices_BinarySearchFunc___api_Fragment_api_Fragment_int__sealed_Add_f1 N l tg = some (((r : Int), (decide (r < l.length) && decide ((l.getD r fnil).1 = tg)), ()), ()) := by
  unfold slices_BinarySearchFunc___api_Fragment_api_Fragment_int__sealed_Add_f1 slices_BinarySearchFunc___api_Fragment_api_Fragment_int__sealed_Add_f1_1
  have := loopK_of (N := N) (step := fun y => slices_BinarySearchFunc___api_Fragment_api_Fragment_int__sealed_Add_f1_s2 N y.1.1 y.1.2.1 y.1.2.2.1 y.1.2.2.2.1 y.1.2.2.2.2.1) (J := fun (e : (((List Fr) × Int × Int × Int × Unit) × (Unit))) => slices_BinarySearchFunc___api_Fragment_api_Fragment_int__sealed_Add_f1_3 N e.1.1 e.1.2.1 e.1.2.2.1 e.1.2.2.2.1)
    (I := fun y => ∃ i j : Nat, y = ((l, tg, (l.length : Int), (i : Int), (j : Int), ()), ()) ∧ i ≤ r ∧ r ≤ j ∧ j ≤ l.length) (μ := fun y => (y.1.2.2.2.2.1 - y.1.2.2.2.1).toNat) (T := fun q => q = (((r : Int), (decide (r < l.length) && decide ((l.getD r fnil).1 = tg)), ()), ())) ?_
    (x := ((l, tg, (l.length : Int), 0, (l.length : Int), ()), ())) ⟨0, l.length, rfl, by omega, hr, Nat.le_refl _⟩ (by simp only; omega)
  · obtain ⟨q, h1, h2⟩ := this
    rw [← h2]; exact h1
  · rintro _ ⟨i, j, rfl, hi, hj, hjl⟩
    show ∃ o, slices_BinarySearchFunc___api_Fragment_api_Fragment_int__sealed_Add_f1_s2 N l tg (l.length : Int) (i : Int) (j : Int) = some o ∧ _
    unfold slices_BinarySearchFunc___api_Fragment_api_Fragment_int__sealed_Add_f1_s2
    by_cases hij : i < j
    · have hm : w64 ((shr64 (iu64 (w64 ((i : Int) + (j : Int)))) 1).toNat : Int) = (((i + j) / 2 : Nat) : Int) := by
        rw [w64_of (x := (i : Int) + (j : Int)) (by omega) (by omega), show (i : Int) + (j : Int) = ((i + j : Nat) : Int) by omega, shr_nat, iu64_nat (by omega)]
        exact w64_of (by omega) (by omega)
      obtain ⟨m, hmd⟩ : ∃ m, m = (i + j) / 2 := ⟨_, rfl⟩
      rw [dpos (show (i : Int) < (j : Int) by omega), cond_true]
      simp only [hm]
      rw [← hmd, inR_of (by omega) (by omega), cond_true, Int.toNat_natCast]
      unfold sealed_Add_f1
      simp only [Option.bind_some]
      have hbm := hb m (by omega)
      show ∃ o, (bif decide (w64 ((l.getD m fnil).1 - tg) < 0) then _ else _) = some o ∧ _
      rw [w64_of (by omega) (by omega)]
      by_cases hc : (l.getD m fnil).1 < tg
      · have hmr : m < r := by
          rcases Nat.lt_or_ge m r with h | h
          · exact h
          · have := hge m h (by omega); omega
        rw [dpos (by omega), cond_true, w64_of (by omega) (by omega)]
        refine ⟨_, rfl, ⟨m + 1, j, rfl, by omega, hj, hjl⟩, ?_⟩
        show ((j : Int) - ((m : Int) + 1)).toNat < ((j : Int) - (i : Int)).toNat
        omega
      · have hmr : r ≤ m := by
          rcases Nat.lt_or_ge m r with h | h
          · exact absurd (hlt m h) hc
          · exact h
        rw [dneg (by omega), cond_false]
        refine ⟨_, rfl, ⟨i, m, rfl, hi, hmr, by omega⟩, ?_⟩
        show ((m : Int) - (i : Int)).toNat < ((j : Int) - (i : Int)).toNat
        omega
    · obtain rfl : i = r := by omega
      rw [dneg (show ¬ (i : Int) < (j : Int) by omega), cond_false]
      refine ⟨_, rfl, _, ?_, rfl⟩
      show slices_BinarySearchFunc___api_Fragment_api_Fragment_int__sealed_Add_f1_3 N l tg (l.length : Int) (i : Int) = _
      unfold slices_BinarySearchFunc___api_Fragment_api_Fragment_int__sealed_Add_f1_3
      by_cases hil : i < l.length
      · have hbm := hb i hil
        rw [dpos (show (i : Int) < (l.length : Int) by omega), cond_true, inR_of (by omega) (by omega), cond_true, Int.toNat_natCast]
        unfold sealed_Add_f1
        simp only [Option.bind_some]
        show some (((i : Int), decide (w64 ((l.getD i fnil).1 - tg) = 0), ()), ()) = _
        rw [w64_of (by omega) (by omega), dpos hil, Bool.true_and]
        have : decide ((l.getD i fnil).1 - tg = 0) = decide ((l.getD i fnil).1 = tg) := by rw [Bool.eq_iff_iff, decide_eq_true_eq, decide_eq_true_eq]; omega
        rw [this]
      · rw [dneg (show ¬ (i : Int) < (l.length : Int) by omega), cond_false, dneg hil, Bool.false_and]
section
variable (t : Nat) (pt : Nat → Fr)
/-- The parts that have come, in their order. -/
def LP (p : Nat → Bool) : List Fr := ((List.range t).filter p).map pt
def LA (p : Nat → Bool) (i : Nat) : List Fr := ((List.range i).filter p).map pt
def LB (p : Nat → Bool) (i : Nat) : List Fr := ((List.range' i (t - i)).filter p).map pt
theorem LP_split (p : Nat → Bool) {i : Nat} (hi : i ≤ t) : LP t pt p = LA pt p i ++ LB t pt p i := by
  unfold LP LA LB
  rw [← List.map_append, ← List.filter_append]
  have : List.range t = List.range i ++ List.range' i (t - i) := by
    rw [List.range_eq_range', List.range_eq_range', show List.range' 0 i ++ List.range' i (t - i) = List.range' 0 (i + (t - i)) from by
      have := List.range'_append_1 (s := 0) (m := i) (n := t - i)
      rw [Nat.zero_add] at this
      exact this, show i + (t - i) = t by omega]
  rw [this]
theorem LB_cons (p : Nat → Bool) {i : Nat} (hi : i < t) : LB t pt p i = if p i = true then pt i :: LB t pt p (i + 1) else LB t pt p (i + 1) := by
  unfold LB
  rw [show t - i = (t - (i + 1)) + 1 by omega, List.range'_succ, List.filter_cons]
  split <;> rfl
def setP (p : Nat → Bool) (i : Nat) : Nat → Bool := fun j => p j || decide (j = i)
theorem LA_set (p : Nat → Bool) (i : Nat) : LA pt (setP p i) i = LA pt p i := by
  unfold LA
  congr 1
  apply List.filter_congr
  intro j hj
  have : j < i := by simpa using hj
  unfold setP
  rw [dneg (show ¬ j = i by omega), Bool.or_false]
theorem LB_set (p : Nat → Bool) (i : Nat) : LB t pt (setP p i) (i + 1) = LB t pt p (i + 1) := by
  unfold LB
  congr 1
  apply List.filter_congr
  intro j hj
  have : i + 1 ≤ j := (List.mem_range'_1.1 hj).1
  unfold setP
  rw [dneg (show ¬ j = i by omega), Bool.or_false]
theorem LP_set (p : Nat → Bool) {i : Nat} (hi : i < t) : LP t pt (setP p i) = LA pt p i ++ pt i :: LB t pt p (i + 1) := by
  rw [LP_split t pt _ (Nat.le_of_lt hi), LA_set, LB_cons t pt _ hi, LB_set, if_pos (by unfold setP; simp)]
theorem LP_old (p : Nat → Bool) {i : Nat} (hi : i < t) (hp : p i = true) : LP t pt p = LA pt p i ++ pt i :: LB t pt p (i + 1) := by
  rw [LP_split t pt _ (Nat.le_of_lt hi), LB_cons t pt _ hi, if_pos hp]
theorem LA_mem {p : Nat → Bool} {i : Nat} {x : Fr} (h : x ∈ LA pt p i) : ∃ j, j < i ∧ x = pt j := by
  unfold LA at h
  obtain ⟨j, hj, rfl⟩ := List.mem_map.1 h
  exact ⟨j, by simpa using (List.mem_filter.1 hj).1, rfl⟩
theorem LB_mem {p : Nat → Bool} {i : Nat} {x : Fr} (h : x ∈ LB t pt p i) : ∃ j, i ≤ j ∧ j < t ∧ x = pt j := by
  unfold LB at h
  obtain ⟨j, hj, rfl⟩ := List.mem_map.1 h
  have := List.mem_range'_1.1 (List.mem_filter.1 hj).1
  exact ⟨j, this.1, by omega, rfl⟩
theorem LP_len (p : Nat → Bool) : (LP t pt p).length ≤ t := by
  unfold LP
  rw [List.length_map]
  exact Nat.le_trans (List.length_filter_le _ _) (by simp)
end
theorem getD_mem {l : List Fr} {j : Nat} (h : j < l.length) : l.getD j fnil ∈ l := by
  rw [List.getD_eq_getElem?_getD, List.getElem?_eq_getElem h]; exact List.getElem_mem _
section
variable (N : Nat) (hN : 4611686018427387904 ≤ N) {t : Nat} (ht : t ≤ 16) {pt : Nat → Fr} (hp1 : ∀ j, (pt j).1 = ((j + 1 : Nat) : Int)) (hp2 : ∀ j, (pt j).2.1 = (t : Int))
include hN ht hp1 hp2
theorem addp_ok (p : Nat → Bool) {i : Nat} (hi : i < t) : ∃ e, sealed_Add N (LP t pt p) (pt i) = some ((LP t pt (setP p i), e, ()), ()) ∧ (e = 0 ∨ e = 9) := by
  have hlen := LP_len t pt p
  have hnum : ∀ x ∈ LP t pt p, 0 ≤ x.1 ∧ x.1 ≤ 100 ∧ x.2.1 = (t : Int) := by
    intro x hx
    unfold LP at hx
    obtain ⟨j, hj, rfl⟩ := List.mem_map.1 hx
    have : j < t := by simpa using (List.mem_filter.1 hj).1
    rw [hp1, hp2]
    exact ⟨by omega, by omega, rfl⟩
  obtain ⟨A, hA⟩ : ∃ A, A = LA pt p i := ⟨_, rfl⟩
  obtain ⟨B, hB⟩ : ∃ B, B = LB t pt p i := ⟨_, rfl⟩
  have hsp : LP t pt p = A ++ B := by rw [hA, hB]; exact LP_split t pt p (Nat.le_of_lt hi)
  have hbs := bs_ok N hN (l := LP t pt p) (tg := (pt i).1) (r := A.length) (by rw [hsp, List.length_append]; omega) (by omega)
    (fun j hj => by
      have e : (LP t pt p).getD j fnil = A.getD j fnil := by rw [hsp, List.getD_eq_getElem?_getD, List.getElem?_append_left hj, ← List.getD_eq_getElem?_getD]
      rw [e]
      have hm := getD_mem hj
      generalize A.getD j fnil = y at hm ⊢
      rw [hA] at hm
      obtain ⟨q, hq, rfl⟩ := LA_mem pt hm
      rw [hp1, hp1]; omega)
    (fun j hj hjl => by
      have e : (LP t pt p).getD j fnil = B.getD (j - A.length) fnil := by rw [hsp, List.getD_eq_getElem?_getD, List.getElem?_append_right hj, ← List.getD_eq_getElem?_getD]
      rw [e]
      have hm := getD_mem (l := B) (j := j - A.length) (by rw [hsp, List.length_append] at hjl; omega)
      generalize B.getD (j - A.length) fnil = y at hm ⊢
      rw [hB] at hm
      obtain ⟨q, hq, _, rfl⟩ := LB_mem t pt hm
      rw [hp1, hp1]; omega)
    (fun j hj => by have := hnum _ (getD_mem hj); omega) (by rw [hp1]; omega) (by rw [hp1]; omega)
  have h2 : sealed_Add_2 N (LP t pt p) (pt i) = some ((LP t pt (setP p i), (if p i = true then 9 else 0), ()), ()) := by
    unfold sealed_Add_2
    rw [hbs]
    simp only [Option.bind_some]
    by_cases hp : p i = true
    · have hB' : B = pt i :: LB t pt p (i + 1) := by rw [hB, LB_cons t pt p hi, if_pos hp]
      have hg : (LP t pt p).getD A.length fnil = pt i := by
        rw [hsp, hB', List.getD_eq_getElem?_getD, List.getElem?_append_right (Nat.le_refl _), Nat.sub_self]; rfl
      have hlt : A.length < (LP t pt p).length := by rw [hsp, hB', List.length_append, List.length_cons]; omega
      rw [dpos hlt, hg, decide_eq_true (show (pt i).1 = (pt i).1 from rfl), if_pos hp]
      have : LP t pt (setP p i) = LP t pt p := by rw [LP_set t pt p hi, LP_old t pt p hi hp]
      rw [this]
      rfl
    · have hpf : p i = false := by simpa using hp
      have hB' : B = LB t pt p (i + 1) := by rw [hB, LB_cons t pt p hi, if_neg hp]
      have hnf : (decide (A.length < (LP t pt p).length) && decide (((LP t pt p).getD A.length fnil).1 = (pt i).1)) = false := by
        by_cases hlt : A.length < (LP t pt p).length
        · have e : (LP t pt p).getD A.length fnil = B.getD 0 fnil := by rw [hsp, List.getD_eq_getElem?_getD, List.getElem?_append_right (Nat.le_refl _), Nat.sub_self, ← List.getD_eq_getElem?_getD]
          have hm := getD_mem (l := B) (j := 0) (by rw [hsp, List.length_append] at hlt; omega)
          rw [e]
          generalize B.getD 0 fnil = y at hm ⊢
          rw [hB'] at hm
          obtain ⟨q, hq, _, rfl⟩ := LB_mem t pt hm
          rw [dneg (show ¬ (pt q).1 = (pt i).1 by rw [hp1, hp1]; omega), Bool.and_false]
        · rw [dneg hlt, Bool.false_and]
      rw [hnf, if_neg hp]
      simp only [cond_false]
      unfold slices_Clone___api_Fragment_api_Fragment_
      rw [room_of (by simp; omega)]
      simp only [cond_true, Option.bind_some, List.nil_append]
      unfold slices_Insert___api_Fragment_api_Fragment_
      have hle : A.length ≤ (LP t pt p).length := by rw [hsp, List.length_append]; omega
      rw [dpos (show (0 : Int) ≤ (A.length : Int) by omega), dpos (show (A.length : Int) ≤ ((LP t pt p).length : Int) by omega), dpos (show ([pt i] : List Fr).length = 1 from rfl), room_of (by simp; omega)]
      simp only [Bool.and_self, cond_true, Option.bind_some, Int.toNat_natCast]
      have e1 : (LP t pt p).take A.length = A := by rw [hsp]; exact List.take_left
      have e2 : (LP t pt p).drop A.length = B := by rw [hsp]; exact List.drop_left
      rw [e1, e2, LP_set t pt p hi, ← hA, ← hB']
      simp
  refine ⟨if p i = true then 9 else 0, ?_, by split <;> simp⟩
  unfold sealed_Add sealed_Add_1
  rw [hp1, hp2] at *
  rw [dneg (show ¬ ((i + 1 : Nat) : Int) < 1 by omega), dneg (show ¬ (t : Int) < 1 by omega), dneg (show ¬ 16 < (t : Int) by omega), dneg (show ¬ (t : Int) < ((i + 1 : Nat) : Int) by omega)]
  simp only [cond_false]
  by_cases h0 : (0 : Int) < ((LP t pt p).length : Int)
  · rw [dpos h0]
    simp only [cond_true]
    rw [inR_of (by omega) (by omega)]
    have hx : ((LP t pt p).getD (0 : Int).toNat ((0 : Int), (0 : Int), (0 : Int), ([] : List UInt8), ())).2.1 = (t : Int) := (hnum _ (getD_mem (l := LP t pt p) (j := 0) (by omega))).2.2
    simp only [cond_true]
    show (bif decide ((t : Int) < ((LP t pt p).getD 0 ((0 : Int), (0 : Int), (0 : Int), ([] : List UInt8), ())).2.1) then _ else bif decide (((LP t pt p).getD 0 ((0 : Int), (0 : Int), (0 : Int), ([] : List UInt8), ())).2.1 < (t : Int)) then _ else _) = _
    rw [show ((LP t pt p).getD 0 ((0 : Int), (0 : Int), (0 : Int), ([] : List UInt8), ())).2.1 = (t : Int) from hx, dneg (show ¬ (t : Int) < (t : Int) by omega)]
    exact h2
  · rw [dneg h0]
    exact h2
end
theorem take_cut (l : List UInt8) (z i : Nat) : l.take (i * z) ++ cut l (i * z) (min l.length ((i + 1) * z)) = l.take ((i + 1) * z) := by
  have hle : i * z ≤ (i + 1) * z := Nat.mul_le_mul_right _ (by omega)
  generalize i * z = a at *
  generalize (i + 1) * z = b at *
  have e : l.take (min l.length b) = l.take b := by
    rcases Nat.le_total l.length b with h | h
    · rw [Nat.min_eq_left h, List.take_of_length_le (Nat.le_refl _), List.take_of_length_le h]
    · rw [Nat.min_eq_right h]
  unfold cut
  rw [e]
  have := List.take_append_drop a (l.take b)
  rw [List.take_take, Nat.min_eq_left hle] at this
  exact this
section
variable (N : Nat) (hN : 4611686018427387904 ≤ N)
include hN
theorem join_ok {t z : Nat} (ht : t ≤ 16) (ht1 : 1 ≤ t) {inner : List UInt8} (hi : inner.length < 80) (hz : inner.length ≤ t * z) {pt : Nat → Fr} (hp2 : ∀ j, (pt j).2.1 = (t : Int)) (hp4 : ∀ j, (pt j).2.2.2.1 = cut inner (j * z) (min inner.length ((j + 1) * z))) :
    sealed_Join N ((List.range t).map pt) = some (((pt 0).2.2.1, true, ()), (inner, ())) := by
  have hl : ((List.range t).map pt).length = t := by simp
  have hg : ∀ j, j < t → ((List.range t).map pt).getD j fnil = pt j := fun j hj => by simp [List.getD, hj]
  unfold sealed_Join sealed_Join_1
  have h0 : ((List.range t).map pt).getD 0 ((0 : Int), (0 : Int), (0 : Int), ([] : List UInt8), ()) = pt 0 := hg 0 (by omega)
  rw [hl, dneg (show ¬ (t : Int) = 0 by omega), inR_of (i := 0) (n := t) (by omega) (by omega), h0, hp2, decide_eq_true (show (t : Int) = (t : Int) from rfl)]
  simp only [cond_false, cond_true, Bool.not_true]
  generalize hL : (List.range t).map pt = L at *
  unfold sealed_Join_2
  rw [show ([] : List UInt8) = inner.take (0 * z) by rw [Nat.zero_mul]; rfl]
  refine (loopK_run (N := N) (fun i : Nat => ((L, L, (t : Int), (i : Int), ()), (inner.take (i * z), ()))) (n := t) ?_ (e := ((L, ()), (inner.take (t * z), ()))) ?_ (by omega)).trans ?_
  · intro i hlt
    show sealed_Join_s3 N L L (t : Int) (i : Int) (inner.take (i * z)) = _
    unfold sealed_Join_s3
    have hgi : L.getD i ((0 : Int), (0 : Int), (0 : Int), ([] : List UInt8), ()) = pt i := hg i hlt
    rw [dpos (show (i : Int) < (t : Int) by omega), inR_of (by omega) (by omega)]
    simp only [cond_true, Int.toNat_natCast, hgi, hp4]
    have l1 : (inner.take (i * z)).length ≤ inner.length := by simp; omega
    have l2 : (cut inner (i * z) (min inner.length ((i + 1) * z))).length ≤ inner.length := by simp [cut]; omega
    rw [room_of (by omega), cond_true, w64_of (by omega) (by omega), take_cut]
    rfl
  · show sealed_Join_s3 N L L (t : Int) (t : Int) (inner.take (t * z)) = _
    unfold sealed_Join_s3
    rw [dneg (show ¬ (t : Int) < (t : Int) by omega)]; rfl
  · show sealed_Join_4 N L (inner.take (t * z)) = _
    unfold sealed_Join_4
    rw [inR_of (i := 0) (n := L.length) (by omega) (by omega), cond_true]
    show some ((((L.getD 0 ((0 : Int), (0 : Int), (0 : Int), ([] : List UInt8), ())).2.2.1, true, ()), (inner.take (t * z), ()))) = _
    rw [h0, List.take_of_length_le hz]
theorem returns_4 {h : Hd} (hh : HOk h) (first : UInt8) {order inner key : List UInt8} (iv : UInt64) (ho : order.length ≤ 100) (hk : key.length = 36) (hi : inner.length < 80) {t z : Nat} (ht : t ≤ 16) (ht1 : 1 ≤ t) (hz : inner.length ≤ t * z) :
    law17_SealedReturns_4 N first order key inner 0 ((List.range t).map fun i => (swr h (first.toNat : Int) inner key iv z t i).1) [] = some ((true, ()), ()) := by
  have hf := first.toNat_lt
  obtain ⟨pt, hpt⟩ : ∃ pt : Nat → Fr, pt = fun i => (((i + 1 : Nat) : Int), (t : Int), (if i = 0 then (first.toNat : Int) else 0), cut inner (i * z) (min inner.length ((i + 1) * z)), ()) := ⟨_, rfl⟩
  have hp1 : ∀ j, (pt j).1 = ((j + 1 : Nat) : Int) := fun j => by rw [hpt]
  have hp2 : ∀ j, (pt j).2.1 = (t : Int) := fun j => by rw [hpt]
  have hp3 : (pt 0).2.2.1 = (first.toNat : Int) := by rw [hpt]; rfl
  have hp4 : ∀ j, (pt j).2.2.2.1 = cut inner (j * z) (min inner.length ((j + 1) * z)) := fun j => by rw [hpt]
  obtain ⟨L, hL⟩ : ∃ L, L = (List.range t).map fun i => (swr h (first.toNat : Int) inner key iv z t i).1 := ⟨_, rfl⟩
  have hLl : L.length = t := by rw [hL]; simp
  have hopen : ∀ i, i < t → sealed_OpenPart N (L.getD i []) key = some ((hset h 53, pt i, 0, ()), ()) := by
    intro i hlt
    obtain ⟨_, q2, q3⟩ := part_back hh (first := (first.toNat : Int)) (by omega) (by omega) (inner := inner) (key := key) iv hk hi (size := z) ht hlt
    have hg : L.getD i [] = (swr h (first.toNat : Int) inner key iv z t i).1 := by rw [hL]; simp [List.getD, hlt]
    rw [hg, spart_ok N hN key (by omega), q3, hpt]
  rw [← hL]
  unfold law17_SealedReturns_4
  have step : ∀ (i : Nat) (p : Nat → Bool) (at_ : Nat), at_ < t → i < 1000 → ∀ (K : Int → Fr → Option (Lo ((UInt8 × List UInt8 × List UInt8 × List UInt8 × (List Fr) × Int × Unit) × ((List (List UInt8)) × Unit)) ((UInt8 × List UInt8 × (List Fr) × Unit) × (Unit)) law17_SealedReturns_R)), 
      (∀ e f, K e f = bif (!(decide (e = (0 : Int)))) then some (.rt ((false, ()), (()))) else
        Option.bind (sealed_Add N (LP t pt p) f) fun y50 =>
        bif (!(decide (y50.1.2.1 = (0 : Int)))) then
          bif (!(decide (y50.1.2.1 = (9 : Int)))) then
            some (.rt ((false, ()), (())))
          else
            some (.go ((first, order, key, inner, y50.1.1, (w64 ((i : Int) + (1 : Int))), ()), (L, ())))
        else
          some (.go ((first, order, key, inner, y50.1.1, (w64 ((i : Int) + (1 : Int))), ()), (L, ())))) →
      (Option.bind (sealed_OpenPart N (L.getD at_ []) key) fun y => K y.1.2.2.1 y.1.2.1) = some (.go ((first, order, key, inner, LP t pt (setP p at_), ((i + 1 : Nat) : Int), ()), (L, ()))) := by
    intro i p at_ hat hi1 K hK
    rw [hopen at_ hat]
    simp only [Option.bind_some]
    rw [hK, decide_eq_true (show (0 : Int) = 0 from rfl)]
    obtain ⟨e, e1, e2⟩ := addp_ok N hN ht hp1 hp2 p hat
    rw [e1, w64_of (by omega) (by omega)]
    simp only [Bool.not_true, cond_false, Option.bind_some]
    rcases e2 with rfl | rfl <;> rfl
  have := loopK_of (N := N) (step := fun y => law17_SealedReturns_s5 N y.1.1 y.1.2.1 y.1.2.2.1 y.1.2.2.2.1 y.1.2.2.2.2.1 y.1.2.2.2.2.2.1 y.2.1) (J := fun (e : ((UInt8 × List UInt8 × (List Fr) × Unit) × (Unit))) => law17_SealedReturns_6 N e.1.1 e.1.2.1 e.1.2.2.1)
    (I := fun y => ∃ (i : Nat) (p : Nat → Bool), y = ((first, order, key, inner, LP t pt p, (i : Int), ()), (L, ())) ∧ i ≤ order.length + t ∧ ∀ q, order.length + q < i → p q = true) (μ := fun y => (1000 - y.1.2.2.2.2.2.1).toNat) (T := fun q => q = ((true, ()), ())) ?_
    (x := ((first, order, key, inner, [], 0, ()), (L, ()))) ⟨0, fun _ => false, by simp [LP], by omega, fun q hq => by omega⟩ (by simp only; omega)
  · obtain ⟨q, h1, h2⟩ := this
    rw [← h2]; exact h1
  · rintro _ ⟨i, p, rfl, hil, hcov⟩
    show ∃ o, law17_SealedReturns_s5 N first order key inner (LP t pt p) (i : Int) L = some o ∧ _
    have e1 : w64 ((order.length : Int) + (L.length : Int)) = ((order.length + t : Nat) : Int) := by rw [hLl, w64_of (by omega) (by omega)]; omega
    by_cases hlt : i < order.length + t
    · have e2 : w64 ((i : Int) - (order.length : Int)) = (i : Int) - (order.length : Int) := w64_of (by omega) (by omega)
      by_cases ho2 : i < order.length
      · have hm : (((order.getD i 0).toNat : Int)).tmod (t : Int) = (((order.getD i 0).toNat % t : Nat) : Int) := by rw [Int.tmod_eq_emod_of_nonneg (by omega)]; omega
        have hmt : (order.getD i 0).toNat % t < t := Nat.mod_lt _ (by omega)
        refine ⟨.go ((first, order, key, inner, LP t pt (setP p ((order.getD i 0).toNat % t)), ((i + 1 : Nat) : Int), ()), (L, ())), ?_, ⟨i + 1, setP p ((order.getD i 0).toNat % t), rfl, by omega, fun q hq => ?_⟩, ?_⟩
        · unfold law17_SealedReturns_s5
          rw [e1, dpos (show (i : Int) < ((order.length + t : Nat) : Int) by omega)]
          simp only [cond_true, e2]
          rw [dpos (show (i : Int) - (order.length : Int) < 0 by omega), inR_of (by omega) (by omega)]
          simp only [cond_true, Int.toNat_natCast, hLl]
          rw [dneg (show ¬ (t : Int) = 0 by omega), hm, inR_of (by omega) (by omega)]
          simp only [Bool.not_false, cond_true, Int.toNat_natCast]
          exact step i p _ hmt (by omega) (fun e f => bif (!(decide (e = (0 : Int)))) then some (.rt ((false, ()), (()))) else
            Option.bind (sealed_Add N (LP t pt p) f) fun y50 =>
            bif (!(decide (y50.1.2.1 = (0 : Int)))) then
              bif (!(decide (y50.1.2.1 = (9 : Int)))) then
                some (.rt ((false, ()), (())))
              else
                some (.go ((first, order, key, inner, y50.1.1, (w64 ((i : Int) + (1 : Int))), ()), (L, ())))
            else
              some (.go ((first, order, key, inner, y50.1.1, (w64 ((i : Int) + (1 : Int))), ()), (L, ())))) (fun _ _ => rfl)
        · omega
        · show (1000 - ((i + 1 : Nat) : Int)).toNat < (1000 - (i : Int)).toNat
          omega
      · obtain ⟨q, hq⟩ : ∃ q, i = order.length + q := ⟨i - order.length, by omega⟩
        have hqt : q < t := by omega
        have e3 : (i : Int) - (order.length : Int) = (q : Int) := by omega
        have e2' : w64 (q : Int) = (q : Int) := w64_of (by omega) (by omega)
        refine ⟨.go ((first, order, key, inner, LP t pt (setP p q), ((i + 1 : Nat) : Int), ()), (L, ())), ?_, ⟨i + 1, setP p q, rfl, by omega, fun q' hq' => ?_⟩, ?_⟩
        · unfold law17_SealedReturns_s5
          rw [e1, dpos (show (i : Int) < ((order.length + t : Nat) : Int) by omega)]
          simp only [cond_true, e2', e3]
          rw [dneg (show ¬ (q : Int) < 0 by omega)]
          simp only [cond_true, cond_false]
          rw [inR_of (i := (q : Int)) (n := L.length) (by omega) (by omega)]
          simp only [cond_true, cond_false, Int.toNat_natCast]
          exact step i p _ hqt (by omega) (fun e f => bif (!(decide (e = (0 : Int)))) then some (.rt ((false, ()), (()))) else
            Option.bind (sealed_Add N (LP t pt p) f) fun y50 =>
            bif (!(decide (y50.1.2.1 = (0 : Int)))) then
              bif (!(decide (y50.1.2.1 = (9 : Int)))) then
                some (.rt ((false, ()), (())))
              else
                some (.go ((first, order, key, inner, y50.1.1, (w64 ((i : Int) + (1 : Int))), ()), (L, ())))
            else
              some (.go ((first, order, key, inner, y50.1.1, (w64 ((i : Int) + (1 : Int))), ()), (L, ())))) (fun _ _ => rfl)
        · unfold setP
          by_cases hqq : q' = q
          · rw [dpos hqq, Bool.or_true]
          · rw [hcov q' (by omega), Bool.true_or]
        · show (1000 - ((i + 1 : Nat) : Int)).toNat < (1000 - (i : Int)).toNat
          omega
    · refine ⟨.br ((first, inner, LP t pt p, ()), ()), ?_, ((true, ()), ()), ?_, rfl⟩
      · unfold law17_SealedReturns_s5
        rw [e1, dneg (show ¬ (i : Int) < ((order.length + t : Nat) : Int) by omega)]; rfl
      · show law17_SealedReturns_6 N first inner (LP t pt p) = _
        have hall : LP t pt p = (List.range t).map pt := by
          unfold LP
          rw [List.filter_eq_self.2]
          intro j hj
          have : j < t := by simpa using hj
          exact hcov j (by omega)
        unfold law17_SealedReturns_6
        rw [hall, join_ok N hN ht ht1 hi hz hp2 hp4, hp3]
        simp only [Option.bind_some, cond_true, decide_true]
        rw [equal_ok (by omega) (by omega) (by omega), decide_eq_true (show inner = inner from rfl)]
        rfl
theorem returns_2 {h : Hd} (hh : HOk h) (first by_ : UInt8) (hb0 : by_ ≠ 0) {order inner key : List UInt8} (iv : UInt64) (ho : order.length ≤ 100) (hk : key.length = 36) (hi : inner.length < 80) :
    law17_SealedReturns_2 N first iv order by_ key (swrite h 46 (first.toNat : Int) [] inner key iv).1 h inner = some ((true, ()), ()) := by
  have hf := first.toNat_lt
  have hby := by_.toNat_lt
  obtain ⟨_, lx, _⟩ := open_back hh (first := (first.toNat : Int)) (by omega) (by omega) (inner := inner) (key := key) iv hk hi
  have hch := open_changed hh (first := (first.toNat : Int)) (by omega) (by omega) (inner := inner) (key := key) iv hk hi hb0 (q := 15 - by_.toNat % 16) (by omega)
  unfold law17_SealedReturns_2
  have hm : ((by_.toNat : Int)).tmod 16 = ((by_.toNat % 16 : Nat) : Int) := by rw [Int.tmod_eq_emod_of_nonneg (by omega)]; omega
  generalize hx : (swrite h 46 (first.toNat : Int) [] inner key iv).1 = x at *
  have ew : w64 (w64 ((x.length : Int) - 1) - ((by_.toNat : Int)).tmod 16) = ((41 + inner.length + (15 - by_.toNat % 16) : Nat) : Int) := by
    rw [hm, lx, w64_of (x := ((57 + inner.length : Nat) : Int) - 1) (by omega) (by omega), w64_of (by omega) (by omega)]; omega
  rw [room_of (by omega)]
  simp only [cond_true, ew]
  rw [inR_of (by omega) (by omega)]
  simp only [cond_true, Int.toNat_natCast]
  rw [sopen_ok N hN key (by rw [List.length_set]; omega), hch]
  simp only [Option.bind_some, decide_true, Bool.not_true, cond_false]
  have hdv : ((inner.length : Int)).tdiv 10 = ((inner.length / 10 : Nat) : Int) := by rw [Int.tdiv_eq_ediv_of_nonneg (by omega)]; omega
  have hz : w64 (5 + w64 ((inner.length : Int).tdiv 10)) = ((5 + inner.length / 10 : Nat) : Int) := by
    rw [hdv, w64_of (x := ((inner.length / 10 : Nat) : Int)) (by omega) (by omega), w64_of (by omega) (by omega)]; omega
  rw [hz, psplit_ok N hN h (first.toNat : Int) key iv _ (by omega)]
  obtain ⟨z, hzd⟩ : ∃ z, z = 5 + inner.length / 10 := ⟨_, rfl⟩
  rw [← hzd]
  have hq1 := Nat.div_mul_le_self (inner.length + z - 1) z
  have hq2 := Nat.div_add_mod (inner.length + z - 1) z
  have hq3 := Nat.mod_lt (inner.length + z - 1) (show 0 < z by omega)
  rw [Nat.mul_comm] at hq2
  have ht : stotal inner.length z = max 1 ((inner.length + z - 1) / z) := rfl
  generalize (inner.length + z - 1) / z = q at *
  have hq16 : q ≤ 16 := by
    rcases Nat.lt_or_ge 16 q with h | h
    · have := Nat.mul_le_mul_right z (show 17 ≤ q by omega); omega
    · exact h
  have hqt : q * z ≤ stotal inner.length z * z := Nat.mul_le_mul_right _ (by rw [ht]; omega)
  have hlz : inner.length ≤ stotal inner.length z * z := by omega
  have ht1 : 1 ≤ stotal inner.length z := by rw [ht]; omega
  have ht16 : stotal inner.length z ≤ 16 := by rw [ht]; omega
  clear ht
  have hsp : ssplit h (first.toNat : Int) inner key iv (z : Int) = ((List.range (stotal inner.length z)).map fun i => (swr h (first.toNat : Int) inner key iv z (stotal inner.length z) i).1, 0) := by
    unfold ssplit
    have hch : scheck h key (first.toNat : Int) = 0 := by
      unfold scheck
      rw [if_neg (not_not_intro hk), if_neg (not_not_intro (hh.2.1 46 (by omega) (by omega))), if_neg (by omega)]
    rw [if_neg (not_not_intro hch), if_neg (by omega), Int.toNat_natCast, if_neg (by omega)]
    have hfa : firstAt (fun i => !(decide ((swr h (first.toNat : Int) inner key iv z (stotal inner.length z) i).2 = 0))) 0 (stotal inner.length z) = none := by
      rw [firstAt_none]
      intro i _ hlt
      rw [decide_eq_true (part_back hh (by omega) (by omega) iv hk hi ht16 (show i < stotal inner.length z by omega)).1]
      rfl
    rw [hfa]
  rw [hsp]
  simp only [Option.bind_some, decide_true, Bool.not_true, cond_false]
  generalize stotal inner.length z = t at *
  unfold law17_SealedReturns_3
  rw [dneg (show ¬ ((((List.range t).map fun i => (swr h (first.toNat : Int) inner key iv z t i).1).length : Nat) : Int) = 0 by simp; omega), cond_false]
  exact returns_4 N hN hh first iv ho hk hi ht16 ht1 hlz
end
theorem returns (codes : List UInt8) (_hc : codes.length ≤ 9223372036854775807) (first : UInt8) (iv : UInt64) (order : List UInt8) (_ho : order.length ≤ 9223372036854775807) (by_ : UInt8) :
    law17_SealedReturns 18446744073709551616 codes first iv order by_ = some ((true, ()), ()) := by
  unfold law17_SealedReturns
  rw [awake17]
  generalize hN0 : 18446744073709551616 = N
  have hN : 4611686018427387904 ≤ N := by omega
  clear hN0
  simp only [Option.bind_some, Bool.not_true, cond_false]
  by_cases hol : (100 : Int) < (order.length : Int)
  · rw [dpos hol]; rfl
  obtain ⟨c0, e0, k0⟩ := new_ok N codes (m := 240) (by omega) (by omega)
  obtain ⟨h, c1, k, b, e1, k1, hh, hk, hb⟩ := draw_ok N hN k0
  have hf := first.toNat_lt
  have hch : scheck h k (first.toNat : Int) = 0 := by
    unfold scheck
    rw [if_neg (not_not_intro hk), if_neg (not_not_intro (hh.2.1 46 (by omega) (by omega))), if_neg (by omega)]
  have hse : sseal h (first.toNat : Int) b k iv = swrite h 46 (first.toNat : Int) [] b k iv := by unfold sseal; rw [if_neg (not_not_intro hch)]
  obtain ⟨w1, lx, w3⟩ := open_back hh (first := (first.toNat : Int)) (by omega) (by omega) (inner := b) (key := k) iv hk hb
  have w2 : (swrite h 46 (first.toNat : Int) [] b k iv).2 = 0 := by rw [w1]
  rw [dneg hol]
  simp only [cond_false, e0, e1, Option.bind_some]
  rw [sseal_ok N hN h (first.toNat : Int) k iv (by omega), hse]
  simp only [Option.bind_some]
  rw [sopen_ok N hN k (by omega), w3, w2]
  simp only [Option.bind_some, decide_true, Bool.not_true, cond_false]
  have hdq : dq (.pair .u64 (.pair .u64 (.pair .i64 (.pair .i64 (.pair .i64 (.pair .u32 .unit)))))) ((hset h 46).1, (hset h 46).2.1, h.2.2.1, (hset h 46).2.2.2.1, (hset h 46).2.2.2.2.1, (hset h 46).2.2.2.2.2.1, ()) h = true := dq_refl (.pair .u64 (.pair .u64 (.pair .i64 (.pair .i64 (.pair .i64 (.pair .u32 .unit)))))) h rfl
  rw [hdq]
  simp only [Bool.not_true, cond_false]
  rw [dneg (show ¬ ((swrite h 46 (first.toNat : Int) [] b k iv).1.length : Int) < 57 by omega), cond_false, equal_ok (by omega) (by omega) (by omega), decide_eq_true (show b = b from rfl)]
  simp only [Option.bind_some, Bool.not_true]
  unfold law17_SealedReturns_1
  rw [cond_false]
  by_cases hb0 : by_ = 0
  · rw [dpos hb0, cond_true]
    exact returns_2 N hN hh first 1 (by decide) iv (by omega) hk hb
  · rw [dneg hb0, cond_false]
    exact returns_2 N hN hh first by_ hb0 iv (by omega) hk hb
end Go.Proofs.YtofajgidjkjnpaaDoor.Pl
