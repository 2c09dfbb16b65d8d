/- The ghost machine: an evaluator of the program's text over plain data, and its soundness. -/
import Derived.Test.YtofajgidjkjnpaaDoorGmLoop
import Derived.Test.YtofajgidjkjnpaaDoorGmInt
import Derived.KernelRfl
import Derived.Test.YtofajgidjkjnpaaDoorFnsEspCarriesA
import Derived.Test.YtofajgidjkjnpaaDoorFnsEspCarriesB
import Derived.Test.YtofajgidjkjnpaaDoorPolyTag
set_option linter.unusedVariables false
set_option linter.unusedSimpArgs false
/- Plain: rules by which a walk over shallow functions is decided. -/
namespace Go.Proofs.YtofajgidjkjnpaaDoor.Pl
open Go
theorem dpos {p : Prop} [Decidable p] (h : p) : decide p = true := decide_eq_true h
theorem dneg {p : Prop} [Decidable p] (h : ¬ p) : decide p = false := decide_eq_false h
theorem w64_of {x : Int} (h : -9223372036854775808 ≤ x) (h' : x ≤ 9223372036854775807) : w64 x = x := w64_id h h'
theorem inR_of {i : Int} {n : Nat} (h : 0 ≤ i) (h' : i < (n : Int)) : inR i n = true := by simp [inR, h, h']
theorem room_of {n k : Nat} (h : n * k ≤ 140737488355328) : room n k = true := by simp [room, h]
theorem tmod_of {a b : Int} (h : 0 ≤ a) : a.tmod b = a % b := Int.tmod_eq_emod_of_nonneg h

theorem take_snoc {α : Type} (l : List α) (d : α) {i : Nat} (h : i < l.length) : l.take (i + 1) = l.take i ++ [l.getD i d] := by
  rw [List.take_add_one, List.getElem?_eq_getElem h]
  simp [List.getD, h]
theorem cut_at (b : List UInt8) (k w : Nat) : cut b k (k + w) = (b.drop k).take w := by
  unfold cut; rw [List.drop_take]; congr 1; omega
end Go.Proofs.YtofajgidjkjnpaaDoor.Pl

/- Plain: rules by which a walk over shallow functions is decided; numbers in bytes (wire, ref01). -/
namespace Go.Proofs.YtofajgidjkjnpaaDoor.Pl
open Go
/-- The number of bytes, the highest first. -/
def nbr (l : List UInt8) : UInt64 := l.foldl (fun v x => shl64 v 8 ||| x.toUInt64) 0
theorem nbr_snoc (l : List UInt8) (x : UInt8) : nbr (l ++ [x]) = shl64 (nbr l) 8 ||| x.toUInt64 := by simp [nbr]
theorem nbr_take (l : List UInt8) {i : Nat} (h : i < l.length) : nbr (l.take (i + 1)) = shl64 (nbr (l.take i)) 8 ||| (l.getD i 0).toUInt64 := by
  rw [List.take_add_one, List.getElem?_eq_getElem h]
  simp only [Option.toList_some, nbr_snoc]
  simp [List.getD, h]
theorem wire_number (N : Nat) {b : List UInt8} {at_ w : Int} (hw : 1 ≤ w) (hw8 : w ≤ 8) (h0 : 0 ≤ at_) (hb : at_ + w ≤ (b.length : Int)) (hl : b.length ≤ 70368744177664) (hN : 8 < N) :
    wire_Number N b at_ w = some ((nbr ((b.drop at_.toNat).take w.toNat), true, ()), ()) := by
  obtain ⟨k, rfl⟩ := Int.eq_ofNat_of_zero_le h0
  obtain ⟨m, rfl⟩ := Int.eq_ofNat_of_zero_le (show 0 ≤ w by omega)
  have hs : cut b k (k + m) = (b.drop k).take m := cut_at b k m
  have hlen : ((b.drop k).take m).length = m := by simp; omega
  have e1 : ((k : Int) + (m : Int)).toNat = k + m := by omega
  unfold wire_Number wire_Number_1 wire_Slice wire_Slice_1
  simp (disch := omega) only [dpos, dneg, w64_of, inR_of, room_of, tmod_of, cond_true, cond_false, Bool.and_self, Bool.and_true, Bool.true_and, Bool.and_false, Bool.false_and, Bool.not_true, Bool.not_false, Option.bind_some, List.length_cons, List.length_nil, Nat.zero_add, Int.toNat_natCast, e1, hs]
  generalize (b.drop k).take m = s at hlen
  subst hlen
  unfold wire_Number_2
  refine (loopK_run (fun i : Nat => ((nbr (s.take i), s, (s.length : Int), (i : Int), ()), ())) (n := s.length) ?_ (e := ((nbr s, ()), ())) ?_ (by omega)).trans rfl
  · intro i hi
    show wire_Number_s3 N _ s _ _ = _
    unfold wire_Number_s3
    simp (disch := omega) only [dpos, dneg, w64_of, inR_of, room_of, tmod_of, cond_true, cond_false, Bool.and_self, Bool.and_true, Bool.true_and, Bool.and_false, Bool.false_and, Bool.not_true, Bool.not_false, Option.bind_some, List.length_cons, List.length_nil, Nat.zero_add, Int.toNat_natCast, nbr_take s hi, Int.natCast_add, Int.natCast_one]
  · show wire_Number_s3 N _ s _ _ = _
    unfold wire_Number_s3
    simp (disch := omega) only [dpos, dneg, w64_of, inR_of, room_of, tmod_of, cond_true, cond_false, Bool.and_self, Bool.and_true, Bool.true_and, Bool.and_false, Bool.false_and, Bool.not_true, Bool.not_false, Option.bind_some, List.length_cons, List.length_nil, Nat.zero_add, List.take_length]

/-- The bytes of a number, the highest first. -/
def be (v : UInt64) : Nat → List UInt8
  | 0 => []
  | k + 1 => (shr64 v (8 * (k : Int)).toNat).toUInt8 :: be v k
theorem be_len (v : UInt64) (k : Nat) : (be v k).length = k := by induction k with | zero => rfl | succ k ih => simp [be, ih]
/-- The first i of w bytes. -/
theorem be_take (v : UInt64) {i w : Nat} (h : i < w) : (be v w).take (i + 1) = (be v w).take i ++ [(shr64 v (8 * ((w : Int) - 1 - (i : Int))).toNat).toUInt8] := by
  induction w generalizing i with
  | zero => omega
  | succ w ih =>
    cases i with
    | zero =>
      simp only [be, List.take_succ_cons, List.take_zero, List.nil_append]
      rw [show ((w + 1 : Nat) : Int) - 1 - ((0 : Nat) : Int) = (w : Int) by omega]
    | succ i =>
      rw [be, List.take_succ_cons, List.take_succ_cons, ih (by omega)]
      rw [show ((w + 1 : Nat) : Int) - 1 - ((i + 1 : Nat) : Int) = (w : Int) - 1 - (i : Int) by omega]
      rfl
theorem wire_put (N : Nat) {v : UInt64} {w : Int} {b : List UInt8} (hw : 1 ≤ w) (hw8 : w ≤ 8) (hl : b.length ≤ 70368744177664) (hN : 8 < N) :
    wire_Put N v w b = some ((), (b ++ be v w.toNat, ())) := by
  obtain ⟨m, rfl⟩ := Int.eq_ofNat_of_zero_le (show 0 ≤ w by omega)
  unfold wire_Put wire_Put_1
  simp (disch := omega) only [dpos, dneg, w64_of, inR_of, room_of, tmod_of, cond_true, cond_false, Bool.and_self, Bool.and_true, Bool.true_and, Bool.and_false, Bool.false_and, Bool.not_true, Bool.not_false, Option.bind_some, List.length_cons, List.length_nil, Nat.zero_add, Int.toNat_natCast]
  unfold wire_Put_2
  have h0 : b = b ++ (be v m).take 0 := by simp
  have := loopK_run (step := fun y => wire_Put_s3 N y.1.1 y.1.2.1 y.2.1) (J := fun (e : ((Unit) × ((List UInt8) × Unit))) => wire_Put_4 N e.2.1) (fun i : Nat => ((v, (m : Int) - 1 - (i : Int), ()), (b ++ (be v m).take i, ()))) (n := m) (e := ((), (b ++ be v m, ()))) ?_ ?_ (show m < N by omega)
  · simp only [Int.natCast_zero, Int.sub_zero, List.take_zero, List.append_nil] at this
    exact this
  · intro i hi
    have hlen := be_len v m
    have hle : ((be v m).take i).length = i := by simp; omega
    show wire_Put_s3 N v _ _ = _
    unfold wire_Put_s3
    simp (disch := omega) only [dpos, dneg, w64_of, inR_of, room_of, tmod_of, cond_true, cond_false, Bool.and_self, Bool.and_true, Bool.true_and, Bool.and_false, Bool.false_and, Bool.not_true, Bool.not_false, Option.bind_some, List.length_cons, List.length_nil, Nat.zero_add, List.length_append, hle]
    rw [be_take v hi, List.append_assoc, show (m : Int) - 1 - (i : Int) - 1 = (m : Int) - 1 - ((i + 1 : Nat) : Int) by omega]
  · show wire_Put_s3 N v _ _ = _
    unfold wire_Put_s3
    simp (disch := omega) only [dpos, dneg, w64_of, inR_of, room_of, tmod_of, cond_true, cond_false, Bool.and_self, Bool.and_true, Bool.true_and, Bool.and_false, Bool.false_and, Bool.not_true, Bool.not_false, Option.bind_some, List.length_cons, List.length_nil, Nat.zero_add]
    rw [List.take_of_length_le (by rw [be_len]; omega)]
theorem ref_put (N : Nat) {v : UInt64} {w : Int} {b : List UInt8} (hw : 1 ≤ w) (hw8 : w ≤ 8) (hl : b.length ≤ 70368744177664) (hN : 8 < N) :
    ref01_Put N b v w = some ((), (b ++ be v w.toNat, ())) := by
  obtain ⟨m, rfl⟩ := Int.eq_ofNat_of_zero_le (show 0 ≤ w by omega)
  unfold ref01_Put ref01_Put_1
  simp (disch := omega) only [dpos, dneg, w64_of, inR_of, room_of, tmod_of, cond_true, cond_false, Bool.and_self, Bool.and_true, Bool.true_and, Bool.and_false, Bool.false_and, Bool.not_true, Bool.not_false, Option.bind_some, List.length_cons, List.length_nil, Nat.zero_add, Int.toNat_natCast, Nat.zero_add]
  unfold ref01_Put_2
  have := loopK_run (step := fun y => ref01_Put_s3 N y.1.1 y.1.2.1 y.2.1) (J := fun (e : ((Unit) × ((List UInt8) × Unit))) => ref01_Put_4 N e.2.1) (fun i : Nat => ((v, (m : Int) - 1 - (i : Int), ()), (b ++ (be v m).take i, ()))) (n := m) (e := ((), (b ++ be v m, ()))) ?_ ?_ (show m < N by omega)
  · simp only [Int.natCast_zero, Int.sub_zero, List.take_zero, List.append_nil] at this
    exact this
  · intro i hi
    have hlen := be_len v m
    have hle : ((be v m).take i).length = i := by simp; omega
    have hu : ∀ x : Int, 0 ≤ x → x < 64 → (iu64 x).toNat = x.toNat := by
      intro x h0 h1
      obtain ⟨n, rfl⟩ := Int.eq_ofNat_of_zero_le h0
      have : n < 64 := by omega
      clear h0 h1 hle hlen hi
      revert n
      decide
    show ref01_Put_s3 N v _ _ = _
    unfold ref01_Put_s3
    simp (disch := omega) only [dpos, dneg, w64_of, inR_of, room_of, tmod_of, cond_true, cond_false, Bool.and_self, Bool.and_true, Bool.true_and, Bool.and_false, Bool.false_and, Bool.not_true, Bool.not_false, Option.bind_some, List.length_cons, List.length_nil, Nat.zero_add, List.length_append, hle, hu]
    rw [be_take v hi, List.append_assoc, show (m : Int) - 1 - (i : Int) - 1 = (m : Int) - 1 - ((i + 1 : Nat) : Int) by omega]
  · show ref01_Put_s3 N v _ _ = _
    unfold ref01_Put_s3
    simp (disch := omega) only [dpos, dneg, w64_of, inR_of, room_of, tmod_of, cond_true, cond_false, Bool.and_self, Bool.and_true, Bool.true_and, Bool.and_false, Bool.false_and, Bool.not_true, Bool.not_false, Option.bind_some, List.length_cons, List.length_nil, Nat.zero_add]
    rw [List.take_of_length_le (by rw [be_len]; omega)]
end Go.Proofs.YtofajgidjkjnpaaDoor.Pl

/- Plain: the checksum of bytes (wire, ref01). -/
namespace Go.Proofs.YtofajgidjkjnpaaDoor.Pl
open Go
/-- The sum of the first bytes, those at even places eight bits higher. -/
def csum (b : List UInt8) : Nat → Int
  | 0 => 0
  | i + 1 => csum b i + (if i % 2 = 0 then ((b.getD i 0).toNat : Int) * 256 else ((b.getD i 0).toNat : Int))
theorem csum_bd (b : List UInt8) : ∀ i, 0 ≤ csum b i ∧ csum b i ≤ 65280 * (i : Int)
  | 0 => by simp [csum]
  | i + 1 => by
    have ih := csum_bd b i
    have hb := (b.getD i 0).toNat_lt
    unfold csum
    split <;> omega
theorem shlI8 {x : Nat} (h : x < 256) : shlI (x : Int) 8 = (x : Int) * 256 := by
  unfold shlI
  have : (x : Int) * 2 ^ min 8 64 = (x : Int) * 256 := rfl
  rw [this, w64_of (by omega) (by omega)]
theorem and16 {x : Int} (h0 : 0 ≤ x) (h1 : x ≤ 1000000000000) : and64 x 65535 = x % 65536 := by
  obtain ⟨n, rfl⟩ := Int.eq_ofNat_of_zero_le h0
  unfold and64
  have e : (BitVec.ofInt 64 (n : Int) &&& BitVec.ofInt 64 65535).toNat = n % 65536 := by
    rw [BitVec.toNat_and, BitVec.toNat_ofInt]
    have e1 : ((n : Int) % ((2 ^ 64 : Nat) : Int)).toNat = n := by omega
    have e2 : (BitVec.ofInt 64 65535).toNat = 2 ^ 16 - 1 := rfl
    rw [e1, e2, Nat.and_two_pow_sub_one_eq_mod]
  rw [e, w64_of (by omega) (by omega)]
  omega
theorem shr16 (x : Int) : shrI x 16 = x / 65536 := by
  unfold shrI
  have : (2 : Int) ^ min 16 64 = 65536 := rfl
  rw [this, Int.fdiv_eq_ediv_of_nonneg _ (by decide)]
theorem fold_ok (N : Nat) (hN : 4611686018427387904 ≤ N) {x : Int} (h0 : 0 ≤ x) (h1 : x ≤ 1000000000000) : ∃ v, wire_Checksum_3 N x = some ((v, ()), ()) ∧ 0 ≤ v ∧ v ≤ 65535 := by
  unfold wire_Checksum_3
  have := loopK_of (N := N) (step := fun y => wire_Checksum_s4 N y.1.1) (J := fun (e : ((Int × Unit) × (Unit))) => wire_Checksum_5 N e.1.1) (I := fun y => 0 ≤ y.1.1 ∧ y.1.1 ≤ 1000000000000) (μ := fun y => y.1.1.toNat) (T := fun r => ∃ v, r = ((v, ()), ()) ∧ 0 ≤ v ∧ v ≤ 65535) ?_ (x := ((x, ()), ())) ⟨h0, h1⟩ (by simp only; omega)
  · obtain ⟨r, h1, v, rfl, h2⟩ := this; exact ⟨v, h1, h2⟩
  · rintro ⟨⟨s, _⟩, _⟩ ⟨s0, s1⟩
    simp only at s0 s1
    show ∃ r, wire_Checksum_s4 N s = some r ∧ _
    unfold wire_Checksum_s4
    by_cases h : 65535 < s
    · rw [dpos h, cond_true, and16 s0 s1, shr16, w64_of (by omega) (by omega)]
      exact ⟨_, rfl, ⟨by simp only; omega, by simp only; omega⟩, by simp only; omega⟩
    · rw [dneg h, cond_false]
      refine ⟨_, rfl, _, rfl, _, rfl, ?_, ?_⟩ <;> simp only <;> rw [w64_of (by omega) (by omega)] <;> omega
theorem checksum_ok (N : Nat) (hN : 4611686018427387904 ≤ N) {b : List UInt8} (hb : b.length ≤ 1000000) : ∃ v, wire_Checksum N b = some ((v, ()), ()) ∧ ref01_Checksum N b = some ((v, ()), ()) ∧ 0 ≤ v ∧ v ≤ 65535 := by
  obtain ⟨q0, q1⟩ := csum_bd b b.length
  obtain ⟨v, hv, v0, v1⟩ := fold_ok N hN q0 (by omega)
  refine ⟨v, ?_, ?_, v0, v1⟩
  · unfold wire_Checksum wire_Checksum_1
    refine (loopK_run (fun i : Nat => ((csum b i, b, (b.length : Int), (i : Int), ()), ())) (n := b.length) ?_ (e := ((csum b b.length, ()), ())) ?_ (by omega)).trans hv
    · intro i hi
      obtain ⟨r0, r1⟩ := csum_bd b i
      have hx := (b.getD i 0).toNat_lt
      show wire_Checksum_s2 N (csum b i) b (b.length : Int) (i : Int) = _
      unfold wire_Checksum_s2
      have ht : ((i : Int)).tmod 2 = ((i % 2 : Nat) : Int) := by rw [Int.tmod_eq_emod_of_nonneg (by omega)]; omega
      rw [dpos (by omega), inR_of (by omega) (by omega), ht]
      simp only [cond_true, Int.toNat_natCast]
      rw [shlI8 hx]
      show _ = some (Lo.go ((csum b i + (if i % 2 = 0 then ((b.getD i 0).toNat : Int) * 256 else ((b.getD i 0).toNat : Int)), b, (b.length : Int), ((i + 1 : Nat) : Int), ()), ()))
      by_cases h2 : i % 2 = 0
      · rw [if_pos h2, dpos (by omega), cond_true, w64_of (by omega) (by omega), w64_of (by omega) (by omega)]; rfl
      · rw [if_neg h2, dneg (by omega), cond_false, w64_of (by omega) (by omega), w64_of (by omega) (by omega)]; rfl
    · show wire_Checksum_s2 N (csum b b.length) b (b.length : Int) (b.length : Int) = _
      unfold wire_Checksum_s2
      rw [dneg (by omega)]; rfl
  · unfold ref01_Checksum ref01_Checksum_1
    refine (loopK_run (fun i : Nat => ((b, csum b i, (i : Int), ()), ())) (n := b.length) ?_ (e := ((csum b b.length, ()), ())) ?_ (by omega)).trans hv
    · intro i hi
      obtain ⟨r0, r1⟩ := csum_bd b i
      have hx := (b.getD i 0).toNat_lt
      show ref01_Checksum_s2 N b (csum b i) (i : Int) = _
      unfold ref01_Checksum_s2
      have ht : ((i : Int)).tmod 2 = ((i % 2 : Nat) : Int) := by rw [Int.tmod_eq_emod_of_nonneg (by omega)]; omega
      rw [dpos (by omega), inR_of (by omega) (by omega), ht]
      simp only [cond_true, Int.toNat_natCast]
      rw [shlI8 hx]
      show _ = some (Lo.go ((b, csum b i + (if i % 2 = 0 then ((b.getD i 0).toNat : Int) * 256 else ((b.getD i 0).toNat : Int)), ((i + 1 : Nat) : Int), ()), ()))
      by_cases h2 : i % 2 = 0
      · rw [if_pos h2, dpos (by omega), cond_true, w64_of (by omega) (by omega), w64_of (by omega) (by omega)]; rfl
      · rw [if_neg h2, dneg (by omega), cond_false, w64_of (by omega) (by omega), w64_of (by omega) (by omega)]; rfl
    · show ref01_Checksum_s2 N b (csum b b.length) (b.length : Int) = _
      unfold ref01_Checksum_s2
      rw [dneg (by omega)]; rfl
end Go.Proofs.YtofajgidjkjnpaaDoor.Pl

/- Plain: the bytes of packets (lookup.Build and the document's). -/
namespace Go.Proofs.YtofajgidjkjnpaaDoor.Pl
open Go
abbrev Ad := Int × (UInt64 × (UInt64 × Unit))
abbrev Pkt := Ad × (Ad × (Int × (Int × (Int × Unit))))
def lval (a : Ad) : Bool := decide (a.1 = 6) || (decide (a.1 = 4) && (decide (a.2.1 = 0) && decide (a.2.2.1 < 4294967296)))
theorem svalid_ok (N : Nat) (a : Ad) : selector_Valid N a = some ((lval a, ()), ()) := by
  unfold selector_Valid lval
  cases decide (a.1 = 6)
  · cases decide (a.1 = 4)
    · rfl
    · cases decide (a.2.1 = 0) <;> rfl
  · rfl
theorem rvalid_ok (N : Nat) (a : Ad) : ref05_Valid N a = some ((lval a, ()), ()) := by
  unfold ref05_Valid lval
  by_cases h6 : a.1 = 6
  · have h4 : ¬ a.1 = 4 := by omega
    rw [dpos h6, dneg h4]; rfl
  · rw [dneg h6]
    cases decide (a.1 = 4)
    · rfl
    · cases decide (a.2.1 = 0)
      · rfl
      · cases decide (a.2.2.1 < 4294967296) <;> rfl
def prt (n : Int) : Bool := decide (-1 ≤ n) && decide (n ≤ 65535)
theorem lport_ok (N : Nat) (n : Int) : lookup_port N n = some ((prt n, ()), ()) := by
  unfold lookup_port prt
  cases decide (-1 ≤ n) <;> rfl
theorem rport_ok (N : Nat) (n : Int) : ref22_port N n = some ((prt n, ()), ()) := by
  unfold ref22_port prt
  cases decide (-1 ≤ n) <;> rfl
theorem prt_bd {n : Int} (h : prt n = true) : -1 ≤ n ∧ n ≤ 65535 := by
  unfold prt at h
  rw [Bool.and_eq_true, decide_eq_true_eq, decide_eq_true_eq] at h
  exact h
/-- The data with the ports. -/
def put1 (d : List UInt8) (s : Int) : List UInt8 := if s = -1 then d else (d.set 0 (iu8 (shrI s 8))).set 1 (iu8 s)
def put2 (d : List UInt8) (t : Int) : List UInt8 := if t = -1 then d else (d.set 2 (iu8 (shrI t 8))).set 3 (iu8 t)
def trn (tcp : Bool) (s t : Int) (d : List UInt8) : Option (List UInt8) :=
  if tcp = true then (if s = -1 ∧ t = -1 then some d else if d.length < 4 then none else some (put2 (put1 d s) t)) else some d
theorem put1_len (d : List UInt8) (s : Int) : (put1 d s).length = d.length := by unfold put1; split <;> simp
theorem put2_len (d : List UInt8) (s : Int) : (put2 d s).length = d.length := by unfold put2; split <;> simp
theorem trn_len {tcp : Bool} {s t : Int} {d x : List UInt8} (h : trn tcp s t d = some x) : x.length = d.length := by
  unfold trn at h
  split at h
  · split at h
    · cases h; rfl
    · split at h
      · cases h
      · cases h; rw [put2_len, put1_len]
  · cases h; rfl
def tcpB (p : Pkt) : Bool := decide (p.2.2.1 = 6) || decide (p.2.2.1 = 17)
def outT : Option (List UInt8) → Option ((Int × Unit) × (List UInt8 × Unit))
  | none => some ((1, ()), ([], ()))
  | some x => some ((0, ()), (x, ()))
theorem tr_step (N : Nat) (d : List UInt8) (A : List Int) (hA : A.length = 2) {i : Nat} (hi : i < 2) {n : Int} (hn : A.getD i 0 = n) :
    lookup_transport_s3 N 2 (i : Int) d A = if n = -1 then some (.go ((2, ((i + 1 : Nat) : Int), ()), (d, A, ()))) else if d.length < 4 then some (.rt ((1, ()), ([], ()))) else some (.go ((2, ((i + 1 : Nat) : Int), ()), ((d.set (2 * i) (iu8 (shrI n 8))).set (2 * i + 1) (iu8 n), A, ()))) := by
  unfold lookup_transport_s3
  have hw : w64 ((i : Int) + 1) = ((i + 1 : Nat) : Int) := by rw [w64_of (by omega) (by omega)]; rfl
  have h2 : w64 (2 * (i : Int)) = ((2 * i : Nat) : Int) := by rw [w64_of (by omega) (by omega)]; omega
  have h3 : w64 (((2 * i : Nat) : Int) + 1) = ((2 * i + 1 : Nat) : Int) := by rw [w64_of (by omega) (by omega)]; omega
  have hr : inR (i : Int) A.length = true := inR_of (by omega) (by omega)
  rw [dpos (show ((i : Nat) : Int) < 2 by omega), hr]
  simp only [cond_true, Int.toNat_natCast, hn, hw, h2, h3]
  by_cases h : n = -1
  · rw [dpos h, if_pos h]; rfl
  · rw [dneg h, if_neg h, cond_false]
    by_cases h4 : d.length < 4
    · rw [dpos (by omega), if_pos h4]; rfl
    · have r0 : inR ((2 * i : Nat) : Int) d.length = true := inR_of (by omega) (by omega)
      have r1 : inR ((2 * i + 1 : Nat) : Int) (d.set (2 * i) (iu8 (shrI n 8))).length = true := inR_of (by omega) (by rw [List.length_set]; omega)
      rw [dneg (by omega), if_neg h4, cond_false, r0, cond_true, r1]; rfl
theorem transport_ok (N : Nat) (hN : 4611686018427387904 ≤ N) (p : Pkt) {d : List UInt8} (hd : d.length ≤ 140737488351232) : lookup_transport N p d = outT (trn (tcpB p) p.2.2.2.1 p.2.2.2.2.1 d) := by
  unfold lookup_transport
  rw [room_of (by omega), cond_true]
  have key : ∀ b, b = (!(tcpB p)) → lookup_transport_1 N b p d = outT (trn (tcpB p) p.2.2.2.1 p.2.2.2.2.1 d) := by
    intro b hb
    subst hb
    unfold lookup_transport_1 trn
    cases tcpB p
    · rfl
    · simp only [Bool.not_true, cond_false, if_true]
      show lookup_transport_2 N 2 0 d [p.2.2.2.1, p.2.2.2.2.1] = _
      have g0 : ([p.2.2.2.1, p.2.2.2.2.1] : List Int).getD 0 0 = p.2.2.2.1 := rfl
      have g1 : ([p.2.2.2.1, p.2.2.2.2.1] : List Int).getD 1 0 = p.2.2.2.2.1 := rfl
      have hA : ([p.2.2.2.1, p.2.2.2.2.1] : List Int).length = 2 := rfl
      generalize ([p.2.2.2.1, p.2.2.2.2.1] : List Int) = A at *
      generalize p.2.2.2.1 = s at *
      generalize p.2.2.2.2.1 = t at *
      obtain ⟨M, rfl⟩ : ∃ M, N = M + 3 := ⟨N - 3, by omega⟩
      unfold lookup_transport_2
      have e0 := tr_step (M + 3) d A hA (i := 0) (by omega) g0
      have fin : ∀ d', loopK (M + 1) (fun y => lookup_transport_s3 (M + 3) y.1.1 y.1.2.1 y.2.1 y.2.2.1) (fun (e : ((Unit) × (List UInt8 × Unit))) => lookup_transport_4 (M + 3) e.2.1) ((2, ((1 + 1 : Nat) : Int), ()), (d', A, ())) = some ((0, ()), (d', ())) := by
        intro d'
        rw [loopK_succ]
        show Option.bind (lookup_transport_s3 (M + 3) 2 ((1 + 1 : Nat) : Int) d' A) _ = _
        unfold lookup_transport_s3
        rw [dneg (by omega)]; rfl
      have mid : ∀ d', loopK (M + 2) (fun y => lookup_transport_s3 (M + 3) y.1.1 y.1.2.1 y.2.1 y.2.2.1) (fun (e : ((Unit) × (List UInt8 × Unit))) => lookup_transport_4 (M + 3) e.2.1) ((2, ((0 + 1 : Nat) : Int), ()), (d', A, ())) = (if t = -1 then some ((0, ()), (d', ())) else if d'.length < 4 then some ((1, ()), ([], ())) else some ((0, ()), ((d'.set 2 (iu8 (shrI t 8))).set 3 (iu8 t), ()))) := by
        intro d'
        have e1 := tr_step (M + 3) d' A hA (i := 1) (by omega) g1
        rw [loopK_succ]
        show Option.bind (lookup_transport_s3 (M + 3) 2 ((1 : Nat) : Int) d' A) _ = _
        rw [e1]
        by_cases ht : t = -1
        · rw [if_pos ht, if_pos ht, Option.bind_some]; exact fin d'
        · rw [if_neg ht, if_neg ht]
          by_cases h4 : d'.length < 4
          · rw [if_pos h4, if_pos h4]; rfl
          · rw [if_neg h4, if_neg h4, Option.bind_some]; exact fin _
      rw [loopK_succ]
      show Option.bind (lookup_transport_s3 (M + 3) 2 ((0 : Nat) : Int) d A) _ = _
      rw [e0]
      unfold put1 put2
      by_cases hs : s = -1
      · rw [if_pos hs, Option.bind_some]
        refine (mid d).trans ?_
        by_cases ht : t = -1
        · rw [if_pos ht, if_pos ⟨hs, ht⟩]; rfl
        · rw [if_neg ht, if_neg (show ¬ (s = -1 ∧ t = -1) from fun h => ht h.2)]
          by_cases h4 : d.length < 4
          · rw [if_pos h4, if_pos h4]; rfl
          · rw [if_neg h4, if_neg h4, if_pos hs, if_neg ht]; rfl
      · rw [if_neg hs, if_neg (show ¬ (s = -1 ∧ t = -1) from fun h => hs h.1)]
        by_cases h4 : d.length < 4
        · rw [if_pos h4, if_pos h4]; rfl
        · rw [if_neg h4, if_neg h4, Option.bind_some]
          refine (mid _).trans ?_
          have hl : ((d.set (2 * 0) (iu8 (shrI s 8))).set (2 * 0 + 1) (iu8 s)).length = d.length := by simp
          rw [hl, if_neg h4, if_neg hs]
          by_cases ht : t = -1
          · rw [if_pos ht, if_pos ht]; rfl
          · rw [if_neg ht, if_neg ht]; rfl
  by_cases h6 : p.2.2.1 = 6
  · rw [dpos h6]; exact key false (by unfold tcpB; rw [dpos h6]; rfl)
  · rw [dneg h6]; exact key (!(decide (p.2.2.1 = 17))) (by unfold tcpB; rw [dneg h6, Bool.false_or])
/-- The reference: the ports, and what follows. -/
theorem rports_ok (N : Nat) (p : Pkt) (hs : -1 ≤ p.2.2.2.1) (ht : -1 ≤ p.2.2.2.2.1) (d : List UInt8) (tcp : Bool) : ref22_Build_3 N tcp d p = match trn tcp p.2.2.2.1 p.2.2.2.2.1 d with
    | none => some ((1, ()), ([], ()))
    | some x => ref22_Build_4 N x p := by
  unfold ref22_Build_3 trn put1 put2
  cases tcp
  · rfl
  · simp only [cond_true, if_true]
    by_cases s0 : p.2.2.2.1 = -1
    · have s1 : ¬ 0 ≤ p.2.2.2.1 := by omega
      by_cases t0 : p.2.2.2.2.1 = -1
      · have t1 : ¬ 0 ≤ p.2.2.2.2.1 := by omega
        simp only [dneg s1, dneg t1, cond_false, if_pos (show (p.2.2.2.1 = -1 ∧ p.2.2.2.2.1 = -1) from ⟨s0, t0⟩)]
      · have t1 : 0 ≤ p.2.2.2.2.1 := by omega
        by_cases h4 : d.length < 4
        · have h4' : (d.length : Int) < 4 := by omega
          simp only [dneg s1, dpos t1, dpos h4', cond_false, cond_true, if_neg (show ¬ (p.2.2.2.1 = -1 ∧ p.2.2.2.2.1 = -1) from fun h => t0 h.2), if_pos h4]
        · have h4' : ¬ (d.length : Int) < 4 := by omega
          have r2 : inR (2 : Int) d.length = true := inR_of (by omega) (by omega)
          have r3 : inR (3 : Int) (d.set 2 (iu8 (shrI p.2.2.2.2.1 8))).length = true := inR_of (by omega) (by rw [List.length_set]; omega)
          simp only [dneg s1, dpos t1, dneg h4', cond_false, cond_true, r2, r3, if_neg (show ¬ (p.2.2.2.1 = -1 ∧ p.2.2.2.2.1 = -1) from fun h => t0 h.2), if_neg h4, if_pos s0, if_neg t0]
    · have s1 : 0 ≤ p.2.2.2.1 := by omega
      by_cases h4 : d.length < 4
      · have h4' : (d.length : Int) < 4 := by omega
        simp only [dpos s1, dpos h4', cond_true, if_neg (show ¬ (p.2.2.2.1 = -1 ∧ p.2.2.2.2.1 = -1) from fun h => s0 h.1), if_pos h4]
      · have h4' : ¬ (d.length : Int) < 4 := by omega
        have r0 : inR (0 : Int) d.length = true := inR_of (by omega) (by omega)
        have r1 : inR (1 : Int) (d.set 0 (iu8 (shrI p.2.2.2.1 8))).length = true := inR_of (by omega) (by rw [List.length_set]; omega)
        have r2 : inR (2 : Int) ((d.set 0 (iu8 (shrI p.2.2.2.1 8))).set 1 (iu8 p.2.2.2.1)).length = true := inR_of (by omega) (by simp only [List.length_set]; omega)
        have r3 : inR (3 : Int) (((d.set 0 (iu8 (shrI p.2.2.2.1 8))).set 1 (iu8 p.2.2.2.1)).set 2 (iu8 (shrI p.2.2.2.2.1 8))).length = true := inR_of (by omega) (by simp only [List.length_set]; omega)
        by_cases t0 : p.2.2.2.2.1 = -1
        · have t1 : ¬ 0 ≤ p.2.2.2.2.1 := by omega
          simp only [dpos s1, dneg t1, dneg h4', cond_false, cond_true, r0, r1, if_neg (show ¬ (p.2.2.2.1 = -1 ∧ p.2.2.2.2.1 = -1) from fun h => s0 h.1), if_neg h4, if_neg s0, if_pos t0]
        · have t1 : 0 ≤ p.2.2.2.2.1 := by omega
          simp only [dpos s1, dpos t1, dneg h4', cond_false, cond_true, r0, r1, r2, r3, if_neg (show ¬ (p.2.2.2.1 = -1 ∧ p.2.2.2.2.1 = -1) from fun h => s0 h.1), if_neg h4, if_neg s0, if_neg t0]
theorem build_2 (N : Nat) (hN : 4611686018427387904 ≤ N) (p : Pkt) (h1 : lval p.1 = true) (h2 : lval p.2.1 = true) (h3 : p.1.1 = p.2.1.1) {x : List UInt8} (hx : x.length ≤ 140737488351232) :
    ∃ e r, (bif decide (p.1.1 = 6) then lookup_Build_2 N (decide (p.1.1 = 6)) 40 p x else lookup_Build_2 N (decide (p.1.1 = 6)) 20 p x) = some ((e, ()), (r, ())) ∧ ref22_Build_4 N x p = some ((e, ()), (r, ())) ∧ r.length ≤ 5000 := by
  unfold ref22_Build_4
  by_cases h6 : p.1.1 = 6
  · have h62 : p.2.1.1 = 6 := by omega
    have n4 : ¬ p.1.1 = 4 := by omega
    have n42 : ¬ p.2.1.1 = 4 := by omega
    rw [dpos h6]
    simp only [cond_true]
    unfold lookup_Build_2 ref22_Build_5
    by_cases hl : (4096 : Int) < 40 + (x.length : Int)
    · have e : w64 (40 + (x.length : Int)) = 40 + (x.length : Int) := w64_of (by omega) (by omega)
      rw [e, dpos hl]
      exact ⟨_, _, rfl, rfl, by simp⟩
    · have e : w64 (40 + (x.length : Int)) = 40 + (x.length : Int) := w64_of (by omega) (by omega)
      rw [e, dneg hl, dneg (show ¬ (40 : Int) = 20 by decide)]
      simp only [cond_false]
      unfold lookup_Build_3 lookup_Build_5
      simp only [cond_true]
      have p1 : wire_Put N (iu64 (x.length : Int)) 2 [96, 0, 0, 0] = some ((), ([96, 0, 0, 0] ++ be (iu64 (x.length : Int)) 2, ())) := wire_put N (by omega) (by omega) (by simp) (by omega)
      have p2 : ref01_Put N [96, 0, 0, 0] (iu64 (x.length : Int)) 2 = some ((), ([96, 0, 0, 0] ++ be (iu64 (x.length : Int)) 2, ())) := ref_put N (by omega) (by omega) (by simp) (by omega)
      have l0 : ([96, 0, 0, 0] ++ be (iu64 (x.length : Int)) 2 : List UInt8).length = 6 := by rw [List.length_append, be_len]; rfl
      rw [p1, p2]
      simp only [Option.bind_some]
      generalize ([96, 0, 0, 0] ++ be (iu64 (x.length : Int)) 2 : List UInt8) = B at *
      have l1 : (B ++ [iu8 p.2.2.1, 64]).length = 8 := by rw [List.length_append, l0]; rfl
      have hr : room (B.length + ([iu8 p.2.2.1, 64] : List UInt8).length) 1 = true := room_of (by rw [l0]; simp only [List.length_cons, List.length_nil]; omega)
      rw [hr]
      simp only [cond_true]
      generalize B ++ [iu8 p.2.2.1, 64] = C at *
      have pa : ∀ (b : List UInt8) (a : Ad), b.length ≤ 1000 → ¬ a.1 = 4 → ref05_PutAddress N b a = some ((), (b ++ be a.2.1 8 ++ be a.2.2.1 8, ())) := by
        intro b a hb ha
        unfold ref05_PutAddress
        have q1 : ref01_Put N b a.2.1 8 = some ((), (b ++ be a.2.1 8, ())) := ref_put N (by omega) (by omega) (by omega) (by omega)
        have q2 : ref01_Put N (b ++ be a.2.1 8) a.2.2.1 8 = some ((), (b ++ be a.2.1 8 ++ be a.2.2.1 8, ())) := ref_put N (by omega) (by omega) (by rw [List.length_append, be_len]; omega) (by omega)
        rw [dneg ha, q1]
        simp only [cond_false, Option.bind_some]
        rw [q2]
        rfl
      have l2 : (C ++ be p.1.2.1 8 ++ be p.1.2.2.1 8).length = 24 := by simp only [List.length_append, be_len, l1]
      have l3 : (C ++ be p.1.2.1 8 ++ be p.1.2.2.1 8 ++ be p.2.1.2.1 8 ++ be p.2.1.2.2.1 8).length = 40 := by simp only [List.length_append, be_len, l1]
      rw [pa C p.1 (by omega) n4]
      simp only [Option.bind_some]
      rw [pa _ p.2.1 (by omega) n42]
      simp only [Option.bind_some]
      have lp : lookup_Build_6 N 2 0 x C [p.1, p.2.1] = lookup_Build_8 N x (C ++ be p.1.2.1 8 ++ be p.1.2.2.1 8 ++ be p.2.1.2.1 8 ++ be p.2.1.2.2.1 8) := by
        have st : ∀ (i : Nat) (b : List UInt8) (a : Ad), i < 2 → b.length ≤ 1000 → ([p.1, p.2.1] : List Ad).getD i (0, 0, 0, ()) = a → lookup_Build_s7 N 2 (i : Int) x b [p.1, p.2.1] = some (.go ((2, ((i + 1 : Nat) : Int), ()), (x, b ++ be a.2.1 8 ++ be a.2.2.1 8, [p.1, p.2.1], ()))) := by
          intro i b a hi hb ha
          unfold lookup_Build_s7
          have q1 : wire_Put N a.2.1 8 b = some ((), (b ++ be a.2.1 8, ())) := wire_put N (by omega) (by omega) (by omega) (by omega)
          have q2 : wire_Put N a.2.2.1 8 (b ++ be a.2.1 8) = some ((), (b ++ be a.2.1 8 ++ be a.2.2.1 8, ())) := wire_put N (by omega) (by omega) (by rw [List.length_append, be_len]; omega) (by omega)
          have hr : inR (i : Int) ([p.1, p.2.1] : List Ad).length = true := inR_of (by omega) (by show (i : Int) < 2; omega)
          have hw : w64 ((i : Int) + 1) = ((i + 1 : Nat) : Int) := by rw [w64_of (by omega) (by omega)]; rfl
          rw [dpos (show ((i : Nat) : Int) < 2 by omega), hr]
          simp only [cond_true, Int.toNat_natCast, ha, q1, q2, Option.bind_some, hw]
        obtain ⟨M, rfl⟩ : ∃ M, N = M + 3 := ⟨N - 3, by omega⟩
        unfold lookup_Build_6
        have s0 := st 0 C p.1 (by omega) (by omega) rfl
        have s1 := st 1 (C ++ be p.1.2.1 8 ++ be p.1.2.2.1 8) p.2.1 (by omega) (by omega) rfl
        rw [loopK_succ]
        show Option.bind (lookup_Build_s7 (M + 3) 2 ((0 : Nat) : Int) x C [p.1, p.2.1]) _ = _
        rw [s0, Option.bind_some]
        show loopK (M + 2) _ _ _ = _
        rw [loopK_succ]
        show Option.bind (lookup_Build_s7 (M + 3) 2 ((1 : Nat) : Int) x _ [p.1, p.2.1]) _ = _
        rw [s1, Option.bind_some]
        show loopK (M + 1) _ _ _ = _
        rw [loopK_succ]
        rfl
      refine ⟨0, C ++ be p.1.2.1 8 ++ be p.1.2.2.1 8 ++ be p.2.1.2.1 8 ++ be p.2.1.2.2.1 8 ++ x, ?_, ?_, by rw [List.length_append, l3]; omega⟩
      · refine lp.trans ?_
        unfold lookup_Build_8
        rw [room_of (by rw [l3]; omega)]; rfl
      · unfold ref22_Build_6
        rw [room_of (by rw [l3]; omega)]; rfl
  · have h4 : p.1.1 = 4 := by
      unfold lval at h1
      rw [dneg h6, Bool.false_or, Bool.and_eq_true, decide_eq_true_eq] at h1
      exact h1.1
    have h42 : p.2.1.1 = 4 := by omega
    rw [dneg h6]
    simp only [cond_false]
    unfold lookup_Build_2 ref22_Build_5
    have e : w64 (20 + (x.length : Int)) = 20 + (x.length : Int) := w64_of (by omega) (by omega)
    by_cases hl : (4096 : Int) < 20 + (x.length : Int)
    · rw [e, dpos hl]
      exact ⟨_, _, rfl, rfl, by simp⟩
    · rw [e, dneg hl, dpos (show (20 : Int) = 20 from rfl)]
      simp only [cond_false, cond_true]
      unfold lookup_Build_3 lookup_Build_9
      simp only [cond_false]
      rw [e]
      have p1 : wire_Put N (iu64 (20 + (x.length : Int))) 2 [69, 0] = some ((), ([69, 0] ++ be (iu64 (20 + (x.length : Int))) 2, ())) := wire_put N (by omega) (by omega) (by simp) (by omega)
      have p2 : ref01_Put N [69, 0] (iu64 (20 + (x.length : Int))) 2 = some ((), ([69, 0] ++ be (iu64 (20 + (x.length : Int))) 2, ())) := ref_put N (by omega) (by omega) (by simp) (by omega)
      have l0 : ([69, 0] ++ be (iu64 (20 + (x.length : Int))) 2 : List UInt8).length = 4 := by rw [List.length_append, be_len]; rfl
      rw [p1, p2]
      simp only [Option.bind_some]
      generalize ([69, 0] ++ be (iu64 (20 + (x.length : Int))) 2 : List UInt8) = B at *
      have l1 : (B ++ [0, 0, 0, 0, 64, iu8 p.2.2.1, 0, 0]).length = 12 := by rw [List.length_append, l0]; rfl
      have hr : room (B.length + ([0, 0, 0, 0, 64, iu8 p.2.2.1, 0, 0] : List UInt8).length) 1 = true := room_of (by rw [l0]; simp only [List.length_cons, List.length_nil]; omega)
      rw [hr]
      simp only [cond_true]
      generalize B ++ [0, 0, 0, 0, 64, iu8 p.2.2.1, 0, 0] = C at *
      have pa : ∀ (b : List UInt8) (a : Ad), b.length ≤ 1000 → a.1 = 4 → ref05_PutAddress N b a = some ((), (b ++ be a.2.2.1 4, ())) := by
        intro b a hb ha
        unfold ref05_PutAddress
        have q1 : ref01_Put N b a.2.2.1 4 = some ((), (b ++ be a.2.2.1 4, ())) := ref_put N (by omega) (by omega) (by omega) (by omega)
        rw [dpos ha, q1]
        rfl
      have q1 : wire_Put N p.1.2.2.1 4 C = some ((), (C ++ be p.1.2.2.1 4, ())) := wire_put N (by omega) (by omega) (by omega) (by omega)
      have l2 : (C ++ be p.1.2.2.1 4).length = 16 := by simp only [List.length_append, be_len, l1]
      have q2 : wire_Put N p.2.1.2.2.1 4 (C ++ be p.1.2.2.1 4) = some ((), (C ++ be p.1.2.2.1 4 ++ be p.2.1.2.2.1 4, ())) := wire_put N (by omega) (by omega) (by omega) (by omega)
      have l3 : (C ++ be p.1.2.2.1 4 ++ be p.2.1.2.2.1 4).length = 20 := by simp only [List.length_append, be_len, l1]
      rw [q1, pa C p.1 (by omega) h4]
      simp only [Option.bind_some]
      rw [q2, pa _ p.2.1 (by omega) h42]
      simp only [Option.bind_some]
      generalize C ++ be p.1.2.2.1 4 ++ be p.2.1.2.2.1 4 = D at *
      obtain ⟨v, c1, c2, _, _⟩ := checksum_ok N hN (b := D) (by omega)
      rw [c1, c2]
      simp only [Option.bind_some]
      have r0 : inR (10 : Int) D.length = true := inR_of (by omega) (by omega)
      have r1 : inR (11 : Int) (D.set 10 (iu8 (shrI v 8))).length = true := inR_of (by omega) (by rw [List.length_set]; omega)
      have l4 : ((D.set 10 (iu8 (shrI v 8))).set 11 (iu8 v)).length = 20 := by simp only [List.length_set, l3]
      have hr2 : room (((D.set 10 (iu8 (shrI v 8))).set 11 (iu8 v)).length + x.length) 1 = true := room_of (by rw [l4]; omega)
      unfold ref22_Build_6
      simp only [r0, r1, cond_true, hr2]
      exact ⟨_, _, rfl, rfl, by rw [List.length_append, l4]; omega⟩
theorem build_ok (N : Nat) (hN : 4611686018427387904 ≤ N) (p : Pkt) {d : List UInt8} (hd : d.length ≤ 140737488351232) : ∃ e r, lookup_Build N p d = some ((e, ()), (r, ())) ∧ ref22_Build N p d = some ((e, ()), (r, ())) ∧ r.length ≤ 5000 := by
  unfold lookup_Build ref22_Build
  simp only [svalid_ok, rvalid_ok, Option.bind_some]
  cases h1 : lval p.1
  · exact ⟨_, _, rfl, rfl, by simp⟩
  cases h2 : lval p.2.1
  · exact ⟨_, _, rfl, rfl, by simp⟩
  simp only [Bool.not_true, cond_false]
  by_cases h3' : ¬ p.1.1 = p.2.1.1
  · rw [dneg h3']; exact ⟨_, _, rfl, rfl, by simp⟩
  have h3 : p.1.1 = p.2.1.1 := by omega
  rw [dpos h3]
  unfold ref22_Build_1
  simp only [Bool.not_true, cond_false]
  by_cases h4 : p.2.2.1 < 0
  · rw [dpos h4]; exact ⟨_, _, rfl, rfl, by simp⟩
  by_cases h5 : 255 < p.2.2.1
  · rw [dneg h4, dpos h5]; exact ⟨_, _, rfl, rfl, by simp⟩
  rw [dneg h4, dneg h5]
  simp only [cond_false, lport_ok, rport_ok, Option.bind_some]
  have core : prt p.2.2.2.1 = true → prt p.2.2.2.2.1 = true → ∃ e r, lookup_Build_1 N d (decide (p.1.1 = 6)) p = some ((e, ()), (r, ())) ∧ ref22_Build_2 N d false p = some ((e, ()), (r, ())) ∧ r.length ≤ 5000 := by
    intro hs ht
    unfold lookup_Build_1 ref22_Build_2
    rw [transport_ok N hN p hd, room_of (by omega)]
    have e3 : (bif decide (p.2.2.1 = 6) then ref22_Build_3 N true d p else ref22_Build_3 N (decide (p.2.2.1 = 17)) d p) = ref22_Build_3 N (tcpB p) d p := by
      unfold tcpB
      cases decide (p.2.2.1 = 6) <;> rfl
    simp only [cond_false, cond_true]
    rw [e3, rports_ok N p (prt_bd hs).1 (prt_bd ht).1]
    cases ht2 : trn (tcpB p) p.2.2.2.1 p.2.2.2.2.1 d with
    | none => exact ⟨_, _, rfl, rfl, by simp⟩
    | some x =>
      have hx := trn_len ht2
      obtain ⟨e, r, q1, q2, q3⟩ := build_2 N hN p h1 h2 h3 (x := x) (by omega)
      exact ⟨e, r, q1, q2, q3⟩
  have pts : ∃ e r, (bif (!(prt p.2.2.2.1)) then some ((5, ()), ([], ())) else bif (!(prt p.2.2.2.2.1)) then some ((5, ()), ([], ())) else lookup_Build_1 N d (decide (p.1.1 = 6)) p) = some ((e, ()), (r, ())) ∧ (bif (!(prt p.2.2.2.1)) then ref22_Build_2 N d true p else ref22_Build_2 N d (!(prt p.2.2.2.2.1)) p) = some ((e, ()), (r, ())) ∧ r.length ≤ 5000 := by
    cases hs : prt p.2.2.2.1
    · exact ⟨_, _, rfl, rfl, by simp⟩
    · cases ht : prt p.2.2.2.2.1
      · exact ⟨_, _, rfl, rfl, by simp⟩
      · exact core hs ht
  by_cases h6 : p.1.1 = 6
  · rw [dpos h6] at pts ⊢
    by_cases h7 : p.2.2.1 = 44
    · rw [dpos h7]; exact ⟨_, _, rfl, rfl, by simp⟩
    · rw [dneg h7]; exact pts
  · rw [dneg h6] at pts ⊢
    exact pts
end Go.Proofs.YtofajgidjkjnpaaDoor.Pl

/- Plain: numbers and their bytes. -/
namespace Go.Proofs.YtofajgidjkjnpaaDoor.Pl
open Go
def bnat (l : List UInt8) : Nat := l.foldl (fun v x => v * 256 + x.toNat) 0
theorem bnat_snoc (l : List UInt8) (x : UInt8) : bnat (l ++ [x]) = bnat l * 256 + x.toNat := by simp [bnat]
theorem snoc_cases {α : Type} {l : List α} {n : Nat} (h : l.length = n + 1) : ∃ l' x, l = l' ++ [x] ∧ l'.length = n :=
  ⟨l.dropLast, l.getLast (by intro e; subst e; simp at h), (List.dropLast_concat_getLast _).symm, by simp [h]⟩
theorem bnat_lt : ∀ {n : Nat} {l : List UInt8}, l.length = n → bnat l < 256 ^ n
  | 0, l, h => by obtain rfl := List.length_eq_zero_iff.1 h; simp [bnat]
  | n + 1, l, h => by
    obtain ⟨l', x, rfl, h'⟩ := snoc_cases h
    have := bnat_lt h'
    have hx := x.toNat_lt
    rw [bnat_snoc, Nat.pow_succ]; omega
theorem shl_or (v : UInt64) (x : UInt8) (h : v.toNat < 72057594037927936) : (shl64 v 8 ||| x.toUInt64).toNat = v.toNat * 256 + x.toNat := by
  have hx := x.toNat_lt
  rw [UInt64.toNat_or]
  have e : (shl64 v 8).toNat = v.toNat <<< 8 := by
    show (v.toBitVec <<< 8).toNat = _
    rw [BitVec.toNat_shiftLeft, UInt64.toNat_toBitVec, Nat.shiftLeft_eq]
    omega
  rw [e, UInt8.toNat_toUInt64, ← Nat.shiftLeft_add_eq_or_of_lt (b := x.toNat) (i := 8) (by omega), Nat.shiftLeft_eq]
theorem nbr_nat : ∀ {n : Nat} {l : List UInt8}, l.length = n → n ≤ 8 → (nbr l).toNat = bnat l
  | 0, l, h, _ => by obtain rfl := List.length_eq_zero_iff.1 h; rfl
  | n + 1, l, h, hn => by
    obtain ⟨l', x, rfl, h'⟩ := snoc_cases h
    have ih := nbr_nat h' (by omega)
    have hl := bnat_lt h'
    have hp : 256 ^ n ≤ 256 ^ 7 := Nat.pow_le_pow_right (by decide) (by omega)
    rw [nbr_snoc, shl_or _ _ (by rw [ih]; omega), bnat_snoc, ih]
theorem shr_nat (v : UInt64) (n : Nat) : (shr64 v n).toNat = v.toNat / 2 ^ n := by
  show (v.toBitVec >>> n).toNat = _
  rw [BitVec.toNat_ushiftRight, Nat.shiftRight_eq_div_pow]; rfl
theorem be_snoc (v : UInt64) : ∀ k : Nat, be v (k + 1) = be (shr64 v 8) k ++ [v.toUInt8]
  | 0 => by
    show [(shr64 v (8 * ((0 : Nat) : Int)).toNat).toUInt8] = [v.toUInt8]
    have : shr64 v (8 * ((0 : Nat) : Int)).toNat = v := UInt64.toNat_inj.1 (by rw [shr_nat]; simp)
    rw [this]
  | k + 1 => by
    rw [be, be_snoc v k, be, List.cons_append]
    congr 2
    apply UInt64.toNat_inj.1
    rw [shr_nat, shr_nat, shr_nat, Nat.div_div_eq_div_mul, ← Nat.pow_add, show (8 * ((k + 1 : Nat) : Int)).toNat = 8 + (8 * (k : Int)).toNat by omega]
theorem bnat_be : ∀ (k : Nat) (v : UInt64), bnat (be v k) = v.toNat % 256 ^ k
  | 0, v => by simp [be, bnat, Nat.mod_one]
  | k + 1, v => by
    have e : v.toNat % 256 ^ (k + 1) = v.toNat % 256 + 256 * (v.toNat / 256 % 256 ^ k) := by rw [Nat.pow_succ, Nat.mul_comm (256 ^ k) 256, Nat.mod_mul]
    rw [be_snoc, bnat_snoc, bnat_be k, shr_nat, UInt64.toNat_toUInt8, e]
    have e2 : (2 : Nat) ^ 8 = 256 := rfl
    rw [e2]
    omega
theorem nbr_be' {k : Nat} (hk : k ≤ 8) (v : UInt64) (hv : v.toNat < 256 ^ k) : nbr (be v k) = v := by
  apply UInt64.toNat_inj.1
  rw [nbr_nat (be_len v k) hk, bnat_be, Nat.mod_eq_of_lt hv]
theorem nbr_lt {k : Nat} (hk : k ≤ 8) {l : List UInt8} (h : l.length = k) : (nbr l).toNat < 256 ^ k := by
  rw [nbr_nat h hk]; exact bnat_lt h
end Go.Proofs.YtofajgidjkjnpaaDoor.Pl

/- Plain: a checksum put in its place makes the sum vanish. -/
namespace Go.Proofs.YtofajgidjkjnpaaDoor.Pl
open Go
theorem iu8_mod (x : Int) : ((iu8 x).toNat : Int) = x % 256 := by
  unfold iu8
  show (((BitVec.ofInt 8 x).toNat : Nat) : Int) = _
  rw [BitVec.toNat_ofInt]
  have : (0 : Int) ≤ x % 256 := Int.emod_nonneg _ (by decide)
  show (((x % ((2 ^ 8 : Nat) : Int)).toNat : Nat) : Int) = _
  have e : ((2 ^ 8 : Nat) : Int) = 256 := rfl
  rw [e]; omega
theorem shr8_i (x : Int) : shrI x 8 = x / 256 := by
  unfold shrI
  have : (2 : Int) ^ min 8 64 = 256 := rfl
  rw [this, Int.fdiv_eq_ediv_of_nonneg _ (by decide)]
theorem fold_val (N : Nat) (hN : 4611686018427387904 ≤ N) {x : Int} (h0 : 0 ≤ x) (h1 : x ≤ 1000000000000) : ∃ u, wire_Checksum_3 N x = some ((65535 - u, ()), ()) ∧ 0 ≤ u ∧ u ≤ 65535 ∧ (x - u) % 65535 = 0 ∧ (0 < x → 0 < u) := by
  unfold wire_Checksum_3
  have := loopK_of (N := N) (step := fun y => wire_Checksum_s4 N y.1.1) (J := fun (e : ((Int × Unit) × (Unit))) => wire_Checksum_5 N e.1.1) (I := fun y => 0 ≤ y.1.1 ∧ y.1.1 ≤ 1000000000000 ∧ (x - y.1.1) % 65535 = 0 ∧ (0 < x → 0 < y.1.1)) (μ := fun y => y.1.1.toNat) (T := fun r => ∃ u, r = ((65535 - u, ()), ()) ∧ 0 ≤ u ∧ u ≤ 65535 ∧ (x - u) % 65535 = 0 ∧ (0 < x → 0 < u)) ?_ (x := ((x, ()), ())) ⟨h0, h1, by simp only; omega, fun h => h⟩ (by simp only; omega)
  · obtain ⟨r, h1, v, rfl, h2⟩ := this; exact ⟨v, h1, h2⟩
  · rintro ⟨⟨s, _⟩, _⟩ ⟨s0, s1, s2, s3⟩
    simp only at s0 s1 s2 s3
    show ∃ r, wire_Checksum_s4 N s = some r ∧ _
    unfold wire_Checksum_s4
    by_cases h : 65535 < s
    · rw [dpos h, cond_true, and16 s0 s1, shr16, w64_of (by omega) (by omega)]
      exact ⟨_, rfl, ⟨by simp only; omega, by simp only; omega, by simp only; omega, fun _ => by simp only; omega⟩, by simp only; omega⟩
    · rw [dneg h, cond_false]
      refine ⟨_, rfl, _, ?_, s, rfl, s0, by omega, s2, s3⟩
      show wire_Checksum_5 N s = _
      unfold wire_Checksum_5
      rw [w64_of (by omega) (by omega)]
theorem checksum_val (N : Nat) (hN : 4611686018427387904 ≤ N) {b : List UInt8} (hb : b.length ≤ 1000000) : ∃ u, wire_Checksum N b = some ((65535 - u, ()), ()) ∧ 0 ≤ u ∧ u ≤ 65535 ∧ (csum b b.length - u) % 65535 = 0 ∧ (0 < csum b b.length → 0 < u) := by
  obtain ⟨q0, q1⟩ := csum_bd b b.length
  obtain ⟨u, hu, u0, u1, u2, u3⟩ := fold_val N hN q0 (by omega)
  refine ⟨u, ?_, u0, u1, u2, u3⟩
  unfold wire_Checksum wire_Checksum_1
  refine (loopK_run (fun i : Nat => ((csum b i, b, (b.length : Int), (i : Int), ()), ())) (n := b.length) ?_ (e := ((csum b b.length, ()), ())) ?_ (by omega)).trans hu
  · intro i hi
    obtain ⟨r0, r1⟩ := csum_bd b i
    have hx := (b.getD i 0).toNat_lt
    show wire_Checksum_s2 N (csum b i) b (b.length : Int) (i : Int) = _
    unfold wire_Checksum_s2
    have ht : ((i : Int)).tmod 2 = ((i % 2 : Nat) : Int) := by rw [Int.tmod_eq_emod_of_nonneg (by omega)]; omega
    rw [dpos (by omega), inR_of (by omega) (by omega), ht]
    simp only [cond_true, Int.toNat_natCast]
    rw [shlI8 hx]
    show _ = some (Lo.go ((csum b i + (if i % 2 = 0 then ((b.getD i 0).toNat : Int) * 256 else ((b.getD i 0).toNat : Int)), b, (b.length : Int), ((i + 1 : Nat) : Int), ()), ()))
    by_cases h2 : i % 2 = 0
    · rw [if_pos h2, dpos (by omega), cond_true, w64_of (by omega) (by omega), w64_of (by omega) (by omega)]; rfl
    · rw [if_neg h2, dneg (by omega), cond_false, w64_of (by omega) (by omega), w64_of (by omega) (by omega)]; rfl
  · show wire_Checksum_s2 N (csum b b.length) b (b.length : Int) (b.length : Int) = _
    unfold wire_Checksum_s2
    rw [dneg (by omega)]; rfl
/-- The head of a packet of the family 4. -/
def hd4 (l1 l0 q h l a3 a2 a1 a0 b3 b2 b1 b0 : UInt8) : List UInt8 := [69, 0, l1, l0, 0, 0, 0, 0, 64, q, h, l, a3, a2, a1, a0, b3, b2, b1, b0]
theorem csum4 (l1 l0 q h l a3 a2 a1 a0 b3 b2 b1 b0 : UInt8) : csum (hd4 l1 l0 q h l a3 a2 a1 a0 b3 b2 b1 b0) 20 =
    0 + ((69 : UInt8).toNat : Int) * 256 + ((0 : UInt8).toNat : Int) + (l1.toNat : Int) * 256 + (l0.toNat : Int) + ((0 : UInt8).toNat : Int) * 256 + ((0 : UInt8).toNat : Int) + ((0 : UInt8).toNat : Int) * 256 + ((0 : UInt8).toNat : Int) + ((64 : UInt8).toNat : Int) * 256 + (q.toNat : Int) + (h.toNat : Int) * 256 + (l.toNat : Int) + (a3.toNat : Int) * 256 + (a2.toNat : Int) + (a1.toNat : Int) * 256 + (a0.toNat : Int) + (b3.toNat : Int) * 256 + (b2.toNat : Int) + (b1.toNat : Int) * 256 + (b0.toNat : Int) := by kernel_rfl
theorem sum4 (N : Nat) (hN : 4611686018427387904 ≤ N) (l1 l0 q a3 a2 a1 a0 b3 b2 b1 b0 : UInt8) : ∃ v, wire_Checksum N (hd4 l1 l0 q 0 0 a3 a2 a1 a0 b3 b2 b1 b0) = some ((v, ()), ()) ∧ wire_Checksum N (hd4 l1 l0 q (iu8 (shrI v 8)) (iu8 v) a3 a2 a1 a0 b3 b2 b1 b0) = some ((0, ()), ()) := by
  have hl : ∀ h l : UInt8, (hd4 l1 l0 q h l a3 a2 a1 a0 b3 b2 b1 b0).length = 20 := fun _ _ => rfl
  obtain ⟨u, e1, u0, u1, u2, u3⟩ := checksum_val N hN (b := hd4 l1 l0 q 0 0 a3 a2 a1 a0 b3 b2 b1 b0) (by rw [hl]; omega)
  refine ⟨_, e1, ?_⟩
  obtain ⟨w, e2, w0, w1, w2, w3⟩ := checksum_val N hN (b := hd4 l1 l0 q (iu8 (shrI (65535 - u) 8)) (iu8 (65535 - u)) a3 a2 a1 a0 b3 b2 b1 b0) (by rw [hl]; omega)
  rw [hl, csum4] at u2 u3 w2 w3
  have z0 : ((0 : UInt8).toNat : Int) = 0 := rfl
  have z1 : ((69 : UInt8).toNat : Int) = 69 := rfl
  have z2 : ((64 : UInt8).toNat : Int) = 64 := rfl
  rw [iu8_mod, iu8_mod, shr8_i] at w2 w3
  rw [z0, z1, z2] at u2 u3 w2 w3
  have g1 := l1.toNat_lt; have g2 := l0.toNat_lt; have g3 := q.toNat_lt
  rw [e2]
  have : 65535 - w = 0 := by
    generalize (l1.toNat : Int) * 256 + (l0.toNat : Int) = s1 at *
    omega
  rw [this]
end Go.Proofs.YtofajgidjkjnpaaDoor.Pl

/- Plain: what is seen of the bytes of a packet whose parts are known. -/
namespace Go.Proofs.YtofajgidjkjnpaaDoor.Pl
open Go
theorem mid {P A S : List UInt8} {k w : Nat} (hP : P.length = k) (hA : A.length = w) : ((P ++ (A ++ S)).drop k).take w = A := by
  subst hP; subst hA
  rw [List.drop_left, List.take_left]
theorem ports_non (N : Nat) {b : List UInt8} (a c : Ad) {q : Int} (hd : Int) (h6 : q ≠ 6) (h17 : q ≠ 17) (h1 : q ≠ 1) (h58 : q ≠ 58) :
    lookup_cursor_ports N (b, ()) ((a, c, q, 0, 0, ()), 0, false, false, hd, ()) = some ((), (((a, c, q, -1, -1, ()), 0, false, false, hd, ()), ())) := by
  unfold lookup_cursor_ports
  simp only [decide_true, Bool.not_true, cond_false, dneg h6, dneg h17, dneg h1, dneg h58]
section
variable (N : Nat) (hN : 4611686018427387904 ≤ N)
include hN
theorem num_at {b P A S : List UInt8} (hb : b = P ++ (A ++ S)) {k w : Nat} (hP : P.length = k) (hA : A.length = w) (h1 : 1 ≤ w) (h8 : w ≤ 8) (hl : b.length ≤ 1000000) : lookup_cursor_number N (b, ()) (k : Int) (w : Int) = some ((nbr A, ()), ()) := by
  unfold lookup_cursor_number
  have hlen : b.length = k + (w + S.length) := by rw [hb, List.length_append, List.length_append, hP, hA]
  have e := wire_number N (b := b) (at_ := (k : Int)) (w := (w : Int)) (by omega) (by omega) (by omega) (by omega) (by omega) (by omega)
  simp only [Int.toNat_natCast] at e
  rw [e, hb, mid hP hA]
  rfl
theorem int_at {b P A S : List UInt8} (hb : b = P ++ (A ++ S)) {k w : Nat} (hP : P.length = k) (hA : A.length = w) (h1 : 1 ≤ w) (h8 : w ≤ 2) (hl : b.length ≤ 1000000) : lookup_cursor_int N (b, ()) (k : Int) (w : Int) = some ((((nbr A).toNat : Int), ()), ()) := by
  unfold lookup_cursor_int
  rw [num_at N hN hb hP hA h1 (by omega) hl, Option.bind_some]
  have h := nbr_lt (by omega) hA
  have h2 : 256 ^ w ≤ 256 ^ 2 := Nat.pow_le_pow_right (by decide) h8
  show some ((w64 ((nbr A).toNat : Int), ()), ()) = _
  rw [w64_of (by omega) (by omega)]
/-- The ports of a packet that carries them. -/
theorem ports_tcp {b P X Y S : List UInt8} (hb : b = P ++ (X ++ (Y ++ S))) {hd : Nat} (hP : P.length = hd) (hX : X.length = 2) (hY : Y.length = 2) (hl : b.length ≤ 1000000) (a c : Ad) {q : Int} (hq : q = 6 ∨ q = 17) :
    lookup_cursor_ports N (b, ()) ((a, c, q, 0, 0, ()), 0, false, false, (hd : Int), ()) = some ((), (((a, c, q, ((nbr X).toNat : Int), ((nbr Y).toNat : Int), ()), 0, false, false, (hd : Int), ()), ())) := by
  have hlen : b.length = hd + (2 + (2 + S.length)) := by rw [hb]; simp only [List.length_append, hP, hX, hY]
  have e1 := int_at N hN hb hP hX (by omega) (by omega) hl
  have e2 := int_at N hN (b := b) (P := P ++ X) (A := Y) (S := S) (k := hd + 2) (w := 2) (by rw [hb, List.append_assoc]) (by rw [List.length_append, hP, hX]) hY (by omega) (by omega) hl
  have e1' : lookup_cursor_int N (b, ()) (hd : Int) 2 = _ := e1
  have e2' : lookup_cursor_int N (b, ()) ((hd : Int) + 2) 2 = _ := e2
  unfold lookup_cursor_ports
  have hw : w64 ((b.length : Int) - (hd : Int)) = (b.length : Int) - (hd : Int) := w64_of (by omega) (by omega)
  have hw2 : w64 ((hd : Int) + 2) = (hd : Int) + 2 := w64_of (by omega) (by omega)
  simp only [decide_true, Bool.not_true, cond_false, hw, hw2, e1', e2', Option.bind_some, dpos (show (4 : Int) ≤ (b.length : Int) - (hd : Int) by omega), cond_true]
  rcases hq with rfl | rfl
  · rfl
  · rfl
/-- The family 6. -/
theorem see6 {L A B C D x : List UInt8} {q : UInt8} (hL : L.length = 2) (hA : A.length = 8) (hB : B.length = 8) (hC : C.length = 8) (hD : D.length = 8) (hx : x.length ≤ 1000) (hlen : (nbr L).toNat = x.length) (hq : q ≠ 44) {k : Pkt}
    (hp : lookup_cursor_ports N ([96, 0, 0, 0] ++ (L ++ ([q, 64] ++ (A ++ (B ++ (C ++ (D ++ x)))))), ()) (((6, nbr A, nbr B, ()), (6, nbr C, nbr D, ()), (q.toNat : Int), 0, 0, ()), 0, false, false, 40, ()) = some ((), ((k, 0, false, false, 40, ()), ()))) :
    lookup_See N ([96, 0, 0, 0] ++ (L ++ ([q, 64] ++ (A ++ (B ++ (C ++ (D ++ x))))))) = some (((k, 0, false, false, 40, ()), 0, ()), ()) := by
  obtain ⟨l1, l0, rfl⟩ : ∃ a b, L = [a, b] := by
    match L, hL with
    | [a, b], _ => exact ⟨a, b, rfl⟩
  generalize hb : ([96, 0, 0, 0] ++ ([l1, l0] ++ ([q, 64] ++ (A ++ (B ++ (C ++ (D ++ x)))))) : List UInt8) = b at hp ⊢
  have hbl : b.length = 40 + x.length := by rw [← hb]; simp only [List.length_append, List.length_cons, List.length_nil, hA, hB, hC, hD]; omega
  have g0 : b.getD 0 0 = 96 := by rw [← hb]; rfl
  have g6 : b.getD 6 0 = q := by rw [← hb]; rfl
  have n1 := int_at N hN (b := b) (P := [96, 0, 0, 0]) (A := [l1, l0]) hb.symm (k := 4) (w := 2) rfl rfl (by omega) (by omega) (by omega)
  have n2 := int_at N hN (b := b) (P := [96, 0, 0, 0, l1, l0]) (A := [q]) (S := [64] ++ (A ++ (B ++ (C ++ (D ++ x))))) (by rw [← hb]; rfl) (k := 6) (w := 1) rfl rfl (by omega) (by omega) (by omega)
  have m1 := num_at N hN (b := b) (P := [96, 0, 0, 0, l1, l0, q, 64]) (A := A) (S := B ++ (C ++ (D ++ x))) (by rw [← hb]; rfl) (k := 8) (w := 8) rfl hA (by omega) (by omega) (by omega)
  have m2 := num_at N hN (b := b) (P := [96, 0, 0, 0, l1, l0, q, 64] ++ A) (A := B) (S := C ++ (D ++ x)) (by rw [← hb, List.append_assoc]; rfl) (k := 16) (w := 8) (by rw [List.length_append, hA]; rfl) hB (by omega) (by omega) (by omega)
  have m3 := num_at N hN (b := b) (P := [96, 0, 0, 0, l1, l0, q, 64] ++ (A ++ B)) (A := C) (S := D ++ x) (by rw [← hb, List.append_assoc, List.append_assoc]; rfl) (k := 24) (w := 8) (by rw [List.length_append, List.length_append, hA, hB]; rfl) hC (by omega) (by omega) (by omega)
  have m4 := num_at N hN (b := b) (P := [96, 0, 0, 0, l1, l0, q, 64] ++ (A ++ (B ++ C))) (A := D) (S := x) (by rw [← hb, List.append_assoc, List.append_assoc, List.append_assoc]; rfl) (k := 32) (w := 8) (by rw [List.length_append, List.length_append, List.length_append, hA, hB, hC]; rfl) hD (by omega) (by omega) (by omega)
  have n1' : lookup_cursor_int N (b, ()) 4 2 = some (((x.length : Int), ()), ()) := by rw [← hlen]; exact n1
  have hq1 : (nbr [q]).toNat = q.toNat := by rw [nbr_nat (n := 1) rfl (by omega)]; show 0 * 256 + q.toNat = _; omega
  have n2' : lookup_cursor_int N (b, ()) 6 1 = some (((q.toNat : Int), ()), ()) := by rw [← hq1]; exact n2
  have m1' : lookup_cursor_number N (b, ()) 8 8 = _ := m1
  have m2' : lookup_cursor_number N (b, ()) 16 8 = _ := m2
  have m3' : lookup_cursor_number N (b, ()) 24 8 = _ := m3
  have m4' : lookup_cursor_number N (b, ()) 32 8 = _ := m4
  have f1 : lookup_six_see_f1 N 8 (b, ()) = some (((6, nbr A, nbr B, ()), ()), ()) := by
    unfold lookup_six_see_f1
    rw [m1', Option.bind_some, show w64 ((8 : Int) + 8) = 16 from w64_of (by omega) (by omega), m2']; rfl
  have f2 : lookup_six_see_f1 N 24 (b, ()) = some (((6, nbr C, nbr D, ()), ()), ()) := by
    unfold lookup_six_see_f1
    rw [m3', Option.bind_some, show w64 ((24 : Int) + 8) = 32 from w64_of (by omega) (by omega), m4']; rfl
  have hq44 : ¬ (q.toNat : Int) = 44 := fun e => hq (UInt8.toNat_inj.1 (by show q.toNat = 44; omega))
  have sv : lookup_six_see N () (b, ()) = some (((((6, nbr A, nbr B, ()), (6, nbr C, nbr D, ()), (q.toNat : Int), 0, 0, ()), 0, false, false, 40, ()), 0, ()), ()) := by
    unfold lookup_six_see
    rw [n1', Option.bind_some]
    simp only [w64_of (show -9223372036854775808 ≤ (x.length : Int) + 40 by omega) (by omega), dpos (show (x.length : Int) + 40 = (b.length : Int) by omega), Bool.not_true, cond_false, f1, f2, n2', Option.bind_some, dneg hq44]
  have sl : lookup_six_least N () (b, ()) = some ((40, ()), ()) := by
    unfold lookup_six_least
    simp only [dpos (show (6 : Int) < (b.length : Int) by omega), cond_true, inR_of (show (0 : Int) ≤ 6 by omega) (show (6 : Int) < (b.length : Int) by omega), g6, dneg hq, cond_false]
  unfold lookup_See
  rw [dneg (show ¬ (b.length : Int) = 0 by omega), cond_false, inR_of (by omega) (by omega), cond_true, g0]
  simp only [dneg (show ¬ shr8 (96 : UInt8) 4 = 4 by decide), dpos (show shr8 (96 : UInt8) 4 = 6 by decide), cond_false, cond_true, sl, sv, Option.bind_some, dneg (show ¬ (b.length : Int) < 40 by omega), decide_true, Bool.not_true, dneg (show ¬ (4096 : Int) < (b.length : Int) by omega), hp]
/-- The family 4. -/
theorem see4 {l1 l0 q h l a3 a2 a1 a0 b3 b2 b1 b0 : UInt8} {x : List UInt8} (hx : x.length ≤ 1000) (hlen : (nbr [l1, l0]).toNat = 20 + x.length) {k : Pkt} (hc : wire_Checksum N (hd4 l1 l0 q h l a3 a2 a1 a0 b3 b2 b1 b0) = some ((0, ()), ()))
    (hp : lookup_cursor_ports N (hd4 l1 l0 q h l a3 a2 a1 a0 b3 b2 b1 b0 ++ x, ()) (((4, 0, nbr [a3, a2, a1, a0], ()), (4, 0, nbr [b3, b2, b1, b0], ()), (q.toNat : Int), 0, 0, ()), 0, false, false, 20, ()) = some ((), ((k, 0, false, false, 20, ()), ()))) :
    lookup_See N (hd4 l1 l0 q h l a3 a2 a1 a0 b3 b2 b1 b0 ++ x) = some (((k, 0, false, false, 20, ()), 0, ()), ()) := by
  generalize hb : hd4 l1 l0 q h l a3 a2 a1 a0 b3 b2 b1 b0 ++ x = b at hp ⊢
  have hbl : b.length = 20 + x.length := by rw [← hb, List.length_append]; rfl
  have g0 : b.getD 0 0 = 69 := by rw [← hb]; rfl
  have n1 := int_at N hN (b := b) (P := [69, 0]) (A := [l1, l0]) (S := [0, 0, 0, 0, 64, q, h, l, a3, a2, a1, a0, b3, b2, b1, b0] ++ x) (by rw [← hb]; rfl) (k := 2) (w := 2) rfl rfl (by omega) (by omega) (by omega)
  have n2 := int_at N hN (b := b) (P := [69, 0, l1, l0, 0, 0]) (A := [0, 0]) (S := [64, q, h, l, a3, a2, a1, a0, b3, b2, b1, b0] ++ x) (by rw [← hb]; rfl) (k := 6) (w := 2) rfl rfl (by omega) (by omega) (by omega)
  have n3 := int_at N hN (b := b) (P := [69, 0, l1, l0, 0, 0, 0, 0, 64]) (A := [q]) (S := [h, l, a3, a2, a1, a0, b3, b2, b1, b0] ++ x) (by rw [← hb]; rfl) (k := 9) (w := 1) rfl rfl (by omega) (by omega) (by omega)
  have m1 := num_at N hN (b := b) (P := [69, 0, l1, l0, 0, 0, 0, 0, 64, q, h, l]) (A := [a3, a2, a1, a0]) (S := [b3, b2, b1, b0] ++ x) (by rw [← hb]; rfl) (k := 12) (w := 4) rfl rfl (by omega) (by omega) (by omega)
  have m2 := num_at N hN (b := b) (P := [69, 0, l1, l0, 0, 0, 0, 0, 64, q, h, l, a3, a2, a1, a0]) (A := [b3, b2, b1, b0]) (S := x) (by rw [← hb]; rfl) (k := 16) (w := 4) rfl rfl (by omega) (by omega) (by omega)
  have hq1 : (nbr [q]).toNat = q.toNat := by rw [nbr_nat (n := 1) rfl (by omega)]; show 0 * 256 + q.toNat = _; omega
  have n1' : lookup_cursor_int N (b, ()) 2 2 = some (((b.length : Int), ()), ()) := by
    have e : ((nbr [l1, l0]).toNat : Int) = (b.length : Int) := by omega
    rw [← e]; exact n1
  have n2' : lookup_cursor_int N (b, ()) 6 2 = some ((0, ()), ()) := n2
  have n3' : lookup_cursor_int N (b, ()) 9 1 = some (((q.toNat : Int), ()), ()) := by rw [← hq1]; exact n3
  have m1' : lookup_cursor_number N (b, ()) 12 4 = _ := m1
  have m2' : lookup_cursor_number N (b, ()) 16 4 = _ := m2
  have hcut : cut b 0 20 = hd4 l1 l0 q h l a3 a2 a1 a0 b3 b2 b1 b0 := by rw [← hb]; rfl
  have hn : w64 ((((69 : UInt8) &&& 15).toNat : Int) * 4) = 20 := by rw [show (((69 : UInt8) &&& 15).toNat : Int) = 5 from rfl]; exact w64_of (by omega) (by omega)
  have sv : lookup_four_see N () (b, ()) = some (((((4, 0, nbr [a3, a2, a1, a0], ()), (4, 0, nbr [b3, b2, b1, b0], ()), (q.toNat : Int), 0, 0, ()), 0, false, false, 20, ()), 0, ()), ()) := by
    unfold lookup_four_see
    simp only [inR_of (show (0 : Int) ≤ 0 by omega) (show (0 : Int) < (b.length : Int) by omega), cond_true, g0, hn, dneg (show ¬ (20 : Int) < 20 by omega), cond_false, dneg (show ¬ (b.length : Int) < 20 by omega), n1', Option.bind_some, decide_true, Bool.not_true]
    unfold lookup_four_see_1
    simp only [cond_false, dpos (show (0 : Int) ≤ 0 by omega), dpos (show (0 : Int) ≤ 20 by omega), dpos (show (20 : Int) ≤ (b.length : Int) by omega), Bool.and_self, cond_true, show ((20 : Int)).toNat = 20 from rfl, hcut, hc, Option.bind_some, decide_true, Bool.not_true, n2', n3', m1', m2']
    rfl
  unfold lookup_See lookup_four_least
  rw [dneg (show ¬ (b.length : Int) = 0 by omega), cond_false, inR_of (by omega) (by omega), cond_true, g0]
  simp only [dpos (show shr8 (69 : UInt8) 4 = 4 by decide), cond_true, Option.bind_some, dneg (show ¬ (b.length : Int) < 20 by omega), cond_false, sv, decide_true, Bool.not_true, dneg (show ¬ (4096 : Int) < (b.length : Int) by omega), hp]
end
end Go.Proofs.YtofajgidjkjnpaaDoor.Pl

/- Plain: what the program and the document see of any bytes, with the family. -/
namespace Go.Proofs.YtofajgidjkjnpaaDoor.Pl
open Go
abbrev Adr := Int × (UInt64 × (UInt64 × Unit))
abbrev Pck := Adr × (Adr × (Int × (Int × (Int × Unit))))
abbrev Sn := Pck × (Int × (Bool × (Bool × (Int × Unit))))
abbrev zsn : Sn := (((0, 0, 0, ()), (0, 0, 0, ()), 0, 0, 0, ()), 0, false, false, 0, ())
theorem wire_num (N : Nat) {b : List UInt8} {at_ w : Int} (hw : 1 ≤ w) (hw8 : w ≤ 8) (h0 : 0 ≤ at_) (ha : at_ ≤ 1000000) (hb : at_ + w ≤ (b.length : Int)) (hl : b.length ≤ 9223372036854775807) (hN : 8 < N) :
    wire_Number N b at_ w = some ((nbr ((b.drop at_.toNat).take w.toNat), true, ()), ()) := by
  obtain ⟨k, rfl⟩ := Int.eq_ofNat_of_zero_le h0
  obtain ⟨m, rfl⟩ := Int.eq_ofNat_of_zero_le (show 0 ≤ w by omega)
  have hs : cut b k (k + m) = (b.drop k).take m := cut_at b k m
  have hlen : ((b.drop k).take m).length = m := by simp; omega
  have e1 : ((k : Int) + (m : Int)).toNat = k + m := by omega
  unfold wire_Number wire_Number_1 wire_Slice wire_Slice_1
  simp (disch := omega) only [dpos, dneg, w64_of, inR_of, room_of, tmod_of, cond_true, cond_false, Bool.and_self, Bool.and_true, Bool.true_and, Bool.and_false, Bool.false_and, Bool.not_true, Bool.not_false, Option.bind_some, List.length_cons, List.length_nil, Nat.zero_add, Int.toNat_natCast, e1, hs]
  generalize (b.drop k).take m = s at hlen
  subst hlen
  unfold wire_Number_2
  refine (loopK_run (fun i : Nat => ((nbr (s.take i), s, (s.length : Int), (i : Int), ()), ())) (n := s.length) ?_ (e := ((nbr s, ()), ())) ?_ (by omega)).trans rfl
  · intro i hi
    show wire_Number_s3 N _ s _ _ = _
    unfold wire_Number_s3
    simp (disch := omega) only [dpos, dneg, w64_of, inR_of, room_of, tmod_of, cond_true, cond_false, Bool.and_self, Bool.and_true, Bool.true_and, Bool.and_false, Bool.false_and, Bool.not_true, Bool.not_false, Option.bind_some, List.length_cons, List.length_nil, Nat.zero_add, Int.toNat_natCast, nbr_take s hi, Int.natCast_add, Int.natCast_one]
  · show wire_Number_s3 N _ s _ _ = _
    unfold wire_Number_s3
    simp (disch := omega) only [dpos, dneg, w64_of, inR_of, room_of, tmod_of, cond_true, cond_false, Bool.and_self, Bool.and_true, Bool.true_and, Bool.and_false, Bool.false_and, Bool.not_true, Bool.not_false, Option.bind_some, List.length_cons, List.length_nil, Nat.zero_add, List.take_length]
theorem ref_num (N : Nat) {b : List UInt8} {at_ w : Int} (hw : 1 ≤ w) (hw8 : w ≤ 8) (h0 : 0 ≤ at_) (ha : at_ ≤ 1000000) (hb : at_ + w ≤ (b.length : Int)) (hl : b.length ≤ 9223372036854775807) (hN : 8 < N) :
    ref01_Number N b at_ w = some ((nbr ((b.drop at_.toNat).take w.toNat), true, ()), ()) := by
  obtain ⟨k, rfl⟩ := Int.eq_ofNat_of_zero_le h0
  obtain ⟨m, rfl⟩ := Int.eq_ofNat_of_zero_le (show 0 ≤ w by omega)
  have hlen : ((b.drop k).take m).length = m := by simp; omega
  unfold ref01_Number ref01_Number_1
  simp (disch := omega) only [dpos, dneg, w64_of, inR_of, room_of, tmod_of, cond_true, cond_false, Bool.and_self, Bool.and_true, Bool.true_and, Bool.and_false, Bool.false_and, Bool.not_true, Bool.not_false, Option.bind_some, List.length_cons, List.length_nil, Nat.zero_add, Int.toNat_natCast]
  unfold ref01_Number_2
  refine (loopK_run (fun i : Nat => ((b, (k : Int), (m : Int), nbr (((b.drop k).take m).take i), ((k + i : Nat) : Int), ()), ())) (n := m) ?_ (e := ((nbr ((b.drop k).take m), ()), ())) ?_ (by omega)).trans rfl
  · intro i hi
    have hg : ((b.drop k).take m).getD i 0 = b.getD (k + i) 0 := by
      simp [List.getD, hi]
    show ref01_Number_s3 N b k m _ _ = _
    unfold ref01_Number_s3
    simp (disch := omega) only [dpos, dneg, w64_of, inR_of, room_of, tmod_of, cond_true, cond_false, Bool.and_self, Bool.and_true, Bool.true_and, Bool.and_false, Bool.false_and, Bool.not_true, Bool.not_false, Option.bind_some, List.length_cons, List.length_nil, Nat.zero_add, Int.toNat_natCast, nbr_take _ (show i < ((b.drop k).take m).length by omega), hg]
    congr 5
  · show ref01_Number_s3 N b k m _ _ = _
    unfold ref01_Number_s3
    simp (disch := omega) only [dpos, dneg, w64_of, inR_of, room_of, tmod_of, cond_true, cond_false, Bool.and_self, Bool.and_true, Bool.true_and, Bool.and_false, Bool.false_and, Bool.not_true, Bool.not_false, Option.bind_some, List.length_cons, List.length_nil, Nat.zero_add]
    rw [List.take_of_length_le (by omega)]
/-- The number of w bytes from a place on. -/
def W (b : List UInt8) (k w : Int) : UInt64 := nbr ((b.drop k.toNat).take w.toNat)
theorem W_lt {b : List UInt8} {k w : Int} (h0 : 0 ≤ k) (hw : 1 ≤ w) (h2 : w ≤ 2) (hb : k + w ≤ (b.length : Int)) : ((W b k w).toNat : Int) ≤ 65535 ∧ 0 ≤ ((W b k w).toNat : Int) := by
  have hl : ((b.drop k.toNat).take w.toNat).length = w.toNat := by simp; omega
  have h := nbr_lt (k := w.toNat) (by omega) hl
  have hp : 256 ^ w.toNat ≤ 256 ^ 2 := Nat.pow_le_pow_right (by decide) (by omega)
  unfold W
  omega
theorem W_one {b : List UInt8} {k : Nat} (h : k < b.length) : (W b (k : Int) 1).toNat = (b.getD k 0).toNat := by
  unfold W
  have e : ((b.drop k).take 1) = [b.getD k 0] := by
    rw [List.drop_eq_getElem_cons h, List.take_succ_cons, List.take_zero, List.getD, List.getElem?_eq_getElem h]; rfl
  show (nbr ((b.drop ((k : Int)).toNat).take 1)).toNat = _
  rw [Int.toNat_natCast, e, nbr_nat (n := 1) rfl (by omega)]
  show 0 * 256 + (b.getD k 0).toNat = _
  omega
theorem and1 {x : Int} (h0 : 0 ≤ x) (h1 : x ≤ 65535) : and64 x 1 = x % 2 := by
  obtain ⟨n, rfl⟩ := Int.eq_ofNat_of_zero_le h0
  unfold and64
  have e : (BitVec.ofInt 64 (n : Int) &&& BitVec.ofInt 64 1).toNat = n % 2 := by
    rw [BitVec.toNat_and, BitVec.toNat_ofInt]
    have e1 : ((n : Int) % ((2 ^ 64 : Nat) : Int)).toNat = n := by omega
    have e2 : (BitVec.ofInt 64 1).toNat = 2 ^ 1 - 1 := rfl
    rw [e1, e2, Nat.and_two_pow_sub_one_eq_mod]
  rw [e, w64_of (by omega) (by omega)]
  omega
section
variable (N : Nat) (hN : 4611686018427387904 ≤ N) {b : List UInt8} (hl : b.length ≤ 9223372036854775807)
include hN hl
theorem cnum {k w : Int} (h0 : 0 ≤ k) (hk : k ≤ 1000) (hw : 1 ≤ w) (h8 : w ≤ 8) (hb : k + w ≤ (b.length : Int)) : lookup_cursor_number N (b, ()) k w = some ((W b k w, ()), ()) := by
  unfold lookup_cursor_number
  rw [wire_num N hw h8 h0 (by omega) hb hl (by omega)]; rfl
theorem cint {k w : Int} (h0 : 0 ≤ k) (hk : k ≤ 1000) (hw : 1 ≤ w) (h2 : w ≤ 2) (hb : k + w ≤ (b.length : Int)) : lookup_cursor_int N (b, ()) k w = some ((((W b k w).toNat : Int), ()), ()) := by
  unfold lookup_cursor_int
  have h := W_lt h0 hw h2 hb
  rw [cnum N hN hl h0 hk hw (by omega) hb, Option.bind_some]
  show some ((w64 ((W b k w).toNat : Int), ()), ()) = _
  rw [w64_of (by omega) (by omega)]
theorem rword {k : Int} (h0 : 0 ≤ k) (hk : k ≤ 1000) (hb : k + 2 ≤ (b.length : Int)) : ref22_word N b k = some ((((W b k 2).toNat : Int), ()), ()) := by
  unfold ref22_word
  have h := W_lt h0 (w := 2) (by omega) (by omega) hb
  rw [ref_num N (by omega) (by omega) h0 (by omega) hb hl (by omega), Option.bind_some]
  show some ((w64 ((W b k 2).toNat : Int), ()), ()) = _
  rw [w64_of (by omega) (by omega)]
theorem raddr4 {k : Int} (h0 : 0 ≤ k) (hk : k ≤ 1000) (hb : k + 4 ≤ (b.length : Int)) : ref05_GetAddress N b k 4 = some (((4, 0, W b k 4, ()), true, ()), ()) := by
  unfold ref05_GetAddress
  rw [ref_num N (by omega) (by omega) h0 (by omega) hb hl (by omega)]; rfl
theorem raddr6 {k : Int} (h0 : 0 ≤ k) (hk : k ≤ 900) (hb : k + 16 ≤ (b.length : Int)) : ref05_GetAddress N b k 6 = some (((6, W b k 8, W b (k + 8) 8, ()), true, ()), ()) := by
  unfold ref05_GetAddress
  rw [dneg (show ¬ (6 : Int) = 4 by decide), cond_false, ref_num N (by omega) (by omega) h0 (by omega) (by omega) hl (by omega), Option.bind_some, w64_of (by omega) (by omega), ref_num N (by omega) (by omega) (by omega) (by omega) (by omega) hl (by omega)]; rfl
theorem saddr6 {k : Int} (h0 : 0 ≤ k) (hk : k ≤ 900) (hb : k + 16 ≤ (b.length : Int)) : lookup_six_see_f1 N k (b, ()) = some (((6, W b k 8, W b (k + 8) 8, ()), ()), ()) := by
  unfold lookup_six_see_f1
  rw [cnum N hN hl h0 (by omega) (by omega) (by omega) (by omega), Option.bind_some, w64_of (by omega) (by omega), cnum N hN hl (by omega) (by omega) (by omega) (by omega) (by omega)]; rfl
theorem sum_eq {n : Nat} (hn : n ≤ 1000) : ∃ v, wire_Checksum N (cut b 0 n) = some ((v, ()), ()) ∧ ref01_Checksum N (cut b 0 n) = some ((v, ()), ()) := by
  obtain ⟨v, h1, h2, _⟩ := checksum_ok N hN (b := cut b 0 n) (by simp [cut]; omega)
  exact ⟨v, h1, h2⟩
theorem four_eq (h20 : 20 ≤ b.length) : ∃ s e, lookup_four_see N () (b, ()) = some ((s, e, ()), ()) ∧ ref22_four N b = some ((s, e, ()), ()) ∧ (e = 0 → 0 ≤ s.2.2.2.2.1 ∧ s.2.2.2.2.1 ≤ 60 ∧ s.2.2.2.2.1 ≤ (b.length : Int) ∧ s.1.1.1 = 4) := by
  unfold lookup_four_see ref22_four
  have hi : inR (0 : Int) b.length = true := inR_of (by omega) (by omega)
  have hx : ((b.getD 0 0 &&& 15).toNat : Int) ≤ 15 := by
    have : (b.getD 0 0 &&& 15).toNat ≤ 15 := by rw [UInt8.toNat_and]; exact Nat.and_le_right
    omega
  have hw : w64 (((b.getD 0 0 &&& 15).toNat : Int) * 4) = ((b.getD 0 0 &&& 15).toNat : Int) * 4 := w64_of (by omega) (by omega)
  simp only [hi, cond_true, dneg (show ¬ (b.length : Int) < 20 by omega), cond_false, hw]
  obtain ⟨m, hm, hm2⟩ : ∃ m : Nat, ((b.getD 0 0 &&& 15).toNat : Int) * 4 = (m : Int) ∧ m ≤ 60 := ⟨(b.getD 0 0 &&& 15).toNat * 4, by omega, by omega⟩
  rw [hm]
  by_cases h1 : (m : Int) < 20
  · rw [dpos h1]; exact ⟨zsn, 2, rfl, rfl, fun h => by omega⟩
  by_cases h2 : (b.length : Int) < (m : Int)
  · rw [dneg h1, dpos h2]; exact ⟨zsn, 2, rfl, rfl, fun h => by omega⟩
  rw [dneg h1, dneg h2, cint N hN hl (by omega) (by omega) (by omega) (by omega) (by omega), rword N hN hl (by omega) (by omega) (by omega)]
  simp only [cond_false, Option.bind_some]
  unfold lookup_four_see_1 ref22_four_1
  by_cases h3 : ((W b 2 2).toNat : Int) = (b.length : Int)
  · rw [dpos h3]
    obtain ⟨v, c1, c2⟩ := sum_eq N hN hl (n := m) (by omega)
    simp only [Bool.not_true, cond_false, dpos (show (0 : Int) ≤ 0 by omega), dpos (show (0 : Int) ≤ (m : Int) by omega), dpos (show (m : Int) ≤ (b.length : Int) by omega), Bool.and_self, cond_true, Int.toNat_natCast, c1, c2, Option.bind_some]
    by_cases h4 : v = 0
    · rw [dpos h4]
      have h9 : (W b 9 1).toNat = (b.getD 9 0).toNat := W_one (k := 9) (by omega)
      simp only [Bool.not_true, cond_false, cint N hN hl (show (0 : Int) ≤ 6 by omega) (by omega) (show (1 : Int) ≤ 2 by omega) (by omega) (by omega), cint N hN hl (show (0 : Int) ≤ 9 by omega) (by omega) (show (1 : Int) ≤ 1 by omega) (by omega) (by omega), rword N hN hl (show (0 : Int) ≤ 6 by omega) (by omega) (by omega),
        cnum N hN hl (show (0 : Int) ≤ 12 by omega) (by omega) (show (1 : Int) ≤ 4 by omega) (by omega) (by omega), cnum N hN hl (show (0 : Int) ≤ 16 by omega) (by omega) (show (1 : Int) ≤ 4 by omega) (by omega) (by omega), raddr4 N hN hl (show (0 : Int) ≤ 12 by omega) (by omega) (by omega), raddr4 N hN hl (show (0 : Int) ≤ 16 by omega) (by omega) (by omega), Option.bind_some, inR_of (show (0 : Int) ≤ 9 by omega) (show (9 : Int) < (b.length : Int) by omega), cond_true, h9]
      exact ⟨_, _, rfl, rfl, fun _ => ⟨by simp only; omega, by simp only; omega, by simp only; omega, rfl⟩⟩
    · rw [dneg h4]; exact ⟨zsn, 12, rfl, rfl, fun h => by omega⟩
  · rw [dneg h3]; exact ⟨zsn, 2, rfl, rfl, fun h => by omega⟩
theorem six_eq (h40 : 40 ≤ b.length) (h48 : b.getD 6 0 = 44 → 48 ≤ b.length) (t : Sn) : ∃ s e, lookup_six_see N () (b, ()) = some ((s, e, ()), ()) ∧ ref22_six_1 N b false t = some ((s, e, ()), ()) ∧ (e = 0 → 0 ≤ s.2.2.2.2.1 ∧ s.2.2.2.2.1 ≤ 60 ∧ s.2.2.2.2.1 ≤ (b.length : Int) ∧ s.1.1.1 = 6) := by
  unfold lookup_six_see ref22_six_1
  have hW := W_lt (b := b) (k := 4) (w := 2) (by omega) (by omega) (by omega) (by omega)
  rw [cint N hN hl (by omega) (by omega) (by omega) (by omega) (by omega), rword N hN hl (by omega) (by omega) (by omega)]
  simp only [cond_false, Option.bind_some]
  have hw1 : w64 (((W b 4 2).toNat : Int) + 40) = ((W b 4 2).toNat : Int) + 40 := w64_of (by omega) (by omega)
  have hw2 : w64 ((b.length : Int) - 40) = (b.length : Int) - 40 := w64_of (by omega) (by omega)
  rw [hw1, hw2]
  by_cases h1 : ((W b 4 2).toNat : Int) + 40 = (b.length : Int)
  · have h6 : (W b 6 1).toNat = (b.getD 6 0).toNat := W_one (k := 6) (by omega)
    rw [dpos h1, dpos (show ((W b 4 2).toNat : Int) = (b.length : Int) - 40 by omega)]
    simp only [Bool.not_true, cond_false, saddr6 N hN hl (show (0 : Int) ≤ 8 by omega) (by omega) (by omega), saddr6 N hN hl (show (0 : Int) ≤ 24 by omega) (by omega) (by omega), raddr6 N hN hl (show (0 : Int) ≤ 8 by omega) (by omega) (by omega), raddr6 N hN hl (show (0 : Int) ≤ 24 by omega) (by omega) (by omega), cint N hN hl (show (0 : Int) ≤ 6 by omega) (by omega) (show (1 : Int) ≤ 1 by omega) (by omega) (by omega), Option.bind_some, inR_of (show (0 : Int) ≤ 6 by omega) (show (6 : Int) < (b.length : Int) by omega), cond_true, h6]
    by_cases h2 : b.getD 6 0 = 44
    · have h48' := h48 h2
      have h40' : (W b 40 1).toNat = (b.getD 40 0).toNat := W_one (k := 40) (by omega)
      have hW2 := W_lt (b := b) (k := 42) (w := 2) (by omega) (by omega) (by omega) (by omega)
      have hd : decide (((b.getD 6 0).toNat : Int) = 44) = true := by rw [h2]; rfl
      rw [hd, dpos h2]
      simp only [cond_true, cint N hN hl (show (0 : Int) ≤ 42 by omega) (by omega) (show (1 : Int) ≤ 2 by omega) (by omega) (by omega), cint N hN hl (show (0 : Int) ≤ 40 by omega) (by omega) (show (1 : Int) ≤ 1 by omega) (by omega) (by omega), rword N hN hl (show (0 : Int) ≤ 42 by omega) (by omega) (by omega), Option.bind_some, inR_of (show (0 : Int) ≤ 40 by omega) (show (40 : Int) < (b.length : Int) by omega), h40', and1 hW2.2 hW2.1]
      have hm : (!(decide (((W b 42 2).toNat : Int) % 2 = 0))) = decide (((W b 42 2).toNat : Int) % 2 = 1) := by
        by_cases q : ((W b 42 2).toNat : Int) % 2 = 0
        · rw [dpos q, dneg (by omega)]; rfl
        · rw [dneg q, dpos (by omega)]; rfl
      rw [hm]
      exact ⟨_, _, rfl, rfl, fun _ => ⟨by simp only; omega, by simp only; omega, by simp only; omega, rfl⟩⟩
    · have hd : decide (((b.getD 6 0).toNat : Int) = 44) = false := dneg fun e => h2 (UInt8.toNat_inj.1 (by show (b.getD 6 0).toNat = 44; omega))
      rw [hd, dneg h2]
      exact ⟨_, _, rfl, rfl, fun _ => ⟨by simp only; omega, by simp only; omega, by simp only; omega, rfl⟩⟩
  · rw [dneg h1, dneg (show ¬ ((W b 4 2).toNat : Int) = (b.length : Int) - 40 by omega)]
    exact ⟨zsn, 2, rfl, rfl, fun h => by omega⟩
end
end Go.Proofs.YtofajgidjkjnpaaDoor.Pl

/- Plain: what the program and the document see of any bytes is the same. -/
namespace Go.Proofs.YtofajgidjkjnpaaDoor.Pl
open Go
section
variable (N : Nat) (hN : 4611686018427387904 ≤ N) {b : List UInt8} (hl : b.length ≤ 9223372036854775807)
include hN hl
theorem ports_eq {s : Sn} (h0 : 0 ≤ s.2.2.2.2.1) (h6 : s.2.2.2.2.1 ≤ 60) (hb : s.2.2.2.2.1 ≤ (b.length : Int)) (fr : Bool) (t : Sn) : ∃ a : Sn, lookup_cursor_ports N (b, ()) s = some ((), (a, ())) ∧
    ref22_See_4 N b t (s.1, s.2.1, s.2.2.1, fr, s.2.2.2.2.1, ()) = some (((a.1, a.2.1, a.2.2.1, fr, a.2.2.2.2.1, ()), 0, ()), ()) ∧ a.2.1 = s.2.1 ∧ a.2.2.1 = s.2.2.1 ∧ a.1.1 = s.1.1 ∧ a.2.2.2.2.1 = s.2.2.2.2.1 := by
  obtain ⟨⟨src, dst, pr, sp, dp, u0⟩, off, mo, fg, hd, u1⟩ := s
  simp only at h0 h6 hb
  unfold lookup_cursor_ports ref22_See_4
  have hw : w64 ((b.length : Int) - hd) = (b.length : Int) - hd := w64_of (by omega) (by omega)
  have hw2 : w64 (hd + 2) = hd + 2 := w64_of (by omega) (by omega)
  simp only [hw, hw2]
  by_cases ho : off = 0
  · subst ho
    simp only [decide_true, Bool.not_true, cond_false, cond_true]
    by_cases q4 : 4 ≤ (b.length : Int) - hd
    · have q2 : 2 ≤ (b.length : Int) - hd := by omega
      rw [dpos q4, dpos q2]
      simp only [cond_true, cint N hN hl h0 (by omega) (show (1 : Int) ≤ 2 by omega) (by omega) (show hd + 2 ≤ (b.length : Int) by omega), cint N hN hl (show 0 ≤ hd + 2 by omega) (by omega) (show (1 : Int) ≤ 2 by omega) (by omega) (show hd + 2 + 2 ≤ (b.length : Int) by omega), rword N hN hl h0 (by omega) (show hd + 2 ≤ (b.length : Int) by omega), rword N hN hl (show 0 ≤ hd + 2 by omega) (by omega) (show hd + 2 + 2 ≤ (b.length : Int) by omega), Option.bind_some]
      cases decide (pr = 6) <;> cases decide (pr = 17) <;> cases decide (pr = 1) <;> cases decide (pr = 58) <;> exact ⟨_, rfl, rfl, rfl, rfl, rfl, rfl⟩
    · rw [dneg q4]
      simp only [cond_false]
      by_cases q2 : 2 ≤ (b.length : Int) - hd
      · rw [dpos q2]
        simp only [cond_true, cint N hN hl h0 (by omega) (show (1 : Int) ≤ 2 by omega) (by omega) (show hd + 2 ≤ (b.length : Int) by omega), rword N hN hl h0 (by omega) (show hd + 2 ≤ (b.length : Int) by omega), Option.bind_some]
        cases decide (pr = 6) <;> cases decide (pr = 17) <;> cases decide (pr = 1) <;> cases decide (pr = 58) <;> exact ⟨_, rfl, rfl, rfl, rfl, rfl, rfl⟩
      · rw [dneg q2]
        cases decide (pr = 6) <;> cases decide (pr = 17) <;> cases decide (pr = 1) <;> cases decide (pr = 58) <;> exact ⟨_, rfl, rfl, rfl, rfl, rfl, rfl⟩
  · rw [dneg ho]
    cases decide (pr = 6) <;> cases decide (pr = 17) <;> cases decide (pr = 1) <;> cases decide (pr = 58) <;> exact ⟨_, rfl, rfl, rfl, rfl, rfl, rfl⟩
/-- The end of both, once the head is read. -/
theorem tail_eq {s : Sn} {e : Int} {f : Int} (t : Sn) (h : e = 0 → 0 ≤ s.2.2.2.2.1 ∧ s.2.2.2.2.1 ≤ 60 ∧ s.2.2.2.2.1 ≤ (b.length : Int) ∧ s.1.1.1 = f) : ∃ s' e', (bif (!(decide (e = 0))) then some ((zsn, e, ()), ())
      else bif (decide ((4096 : Int) < (b.length : Int))) then some ((zsn, 11, ()), ())
      else Option.bind (lookup_cursor_ports N (b, ()) s) fun y => bif y.2.1.2.2.1 then some (((y.2.1.1, y.2.1.2.1, y.2.1.2.2.1, true, y.2.1.2.2.2.2.1, ()), 0, ()), ())
        else some (((y.2.1.1, y.2.1.2.1, y.2.1.2.2.1, (!(decide (y.2.1.2.1 = (0 : Int)))), y.2.1.2.2.2.2.1, ()), 0, ()), ()) : Option lookup_See_R) = some ((s', e', ()), ()) ∧ ref22_See_1 N b e t s = some ((s', e', ()), ()) ∧ (e' = 0 → (b.length : Int) ≤ 4096 ∧ 0 ≤ s'.2.2.2.2.1 ∧ s'.2.2.2.2.1 ≤ (b.length : Int) ∧ s'.1.1.1 = f) := by
  unfold ref22_See_1
  by_cases he : e = 0
  · obtain ⟨h0, h6, hb, hf⟩ := h he
    subst he
    simp only [decide_true, Bool.not_true, cond_false, cond_true]
    unfold ref22_See_2
    by_cases h4 : (4096 : Int) < (b.length : Int)
    · rw [dpos h4]; exact ⟨zsn, 11, rfl, rfl, fun h => by omega⟩
    · rw [dneg h4]
      simp only [cond_false]
      unfold ref22_See_3
      simp only [decide_true, Bool.not_true, cond_false]
      cases hm : s.2.2.1 with
      | true =>
        obtain ⟨a, e1, e2, e3, e4, e5, e6⟩ := ports_eq N hN hl h0 h6 hb true t
        rw [e1, Option.bind_some]
        simp only [cond_true]
        rw [hm] at e2 e4
        rw [e2, e4]
        exact ⟨_, _, rfl, rfl, fun _ => ⟨by omega, by simp only [e6]; exact h0, by simp only [e6]; exact hb, by simp only [e5]; exact hf⟩⟩
      | false =>
        obtain ⟨a, e1, e2, e3, e4, e5, e6⟩ := ports_eq N hN hl h0 h6 hb (!(decide (s.2.1 = 0))) t
        rw [e1, Option.bind_some]
        simp only [cond_false]
        rw [hm] at e2 e4
        rw [e2, e4, e3]
        exact ⟨_, _, rfl, rfl, fun _ => ⟨by omega, by simp only [e6]; exact h0, by simp only [e6]; exact hb, by simp only [e5]; exact hf⟩⟩
  · rw [dneg he]
    unfold ref22_See_2 ref22_See_3
    rw [dneg he]
    exact ⟨zsn, e, rfl, rfl, fun h => absurd h he⟩
/-- What holds of what is seen. -/
def SOk (b : List UInt8) (s : Sn) : Prop := 0 < b.length ∧ (b.length : Int) ≤ 4096 ∧ 0 ≤ s.2.2.2.2.1 ∧ s.2.2.2.2.1 ≤ (b.length : Int) ∧ ((shr8 (b.getD 0 0) 4 = 4 ∧ s.1.1.1 = 4) ∨ (shr8 (b.getD 0 0) 4 = 6 ∧ s.1.1.1 = 6))
theorem see_eq : ∃ s e, lookup_See N b = some ((s, e, ()), ()) ∧ ref22_See N b = some ((s, e, ()), ()) ∧ (e = 0 → SOk b s) := by
  unfold lookup_See ref22_See
  by_cases h0 : (b.length : Int) = 0
  · rw [dpos h0]; exact ⟨_, _, rfl, rfl, fun h => by omega⟩
  have hi : inR (0 : Int) b.length = true := inR_of (by omega) (by omega)
  simp only [dneg h0, cond_false, hi, cond_true]
  by_cases h4 : shr8 (b.getD 0 0) 4 = 4
  · rw [dpos h4]
    unfold lookup_four_least
    simp only [cond_true, Option.bind_some]
    by_cases h20 : (b.length : Int) < 20
    · rw [dpos h20]
      unfold ref22_four
      rw [dpos h20]
      exact ⟨zsn, 1, rfl, rfl, fun h => by omega⟩
    · obtain ⟨s, e, e1, e2, e3⟩ := four_eq N hN hl (by omega)
      rw [dneg h20, e1, e2]
      simp only [cond_false, Option.bind_some]
      obtain ⟨s', e', t1, t2, t3⟩ := tail_eq N hN hl _ e3
      exact ⟨s', e', t1, t2, fun h => ⟨by omega, (t3 h).1, (t3 h).2.1, (t3 h).2.2.1, .inl ⟨h4, (t3 h).2.2.2⟩⟩⟩
  · by_cases h6 : shr8 (b.getD 0 0) 4 = 6
    · rw [dneg h4, dpos h6]
      simp only [cond_false, cond_true]
      unfold lookup_six_least ref22_six
      by_cases h40 : (b.length : Int) < 40
      · rw [dpos h40]
        by_cases h7 : (6 : Int) < (b.length : Int)
        · simp only [dpos h7, cond_true, inR_of (show (0 : Int) ≤ 6 by omega) h7]
          cases decide (b.getD 6 0 = 44)
          · simp only [cond_false, Option.bind_some, dpos h40, cond_true]
            exact ⟨zsn, 1, rfl, rfl, fun h => by omega⟩
          · simp only [cond_true, Option.bind_some, dpos (show (b.length : Int) < 48 by omega)]
            exact ⟨zsn, 1, rfl, rfl, fun h => by omega⟩
        · simp only [dneg h7, cond_false, Option.bind_some, dpos h40, cond_true]
          exact ⟨zsn, 1, rfl, rfl, fun h => by omega⟩
      · have h7 : (6 : Int) < (b.length : Int) := by omega
        simp only [dpos h7, cond_true, inR_of (show (0 : Int) ≤ 6 by omega) h7, dneg h40, cond_false]
        by_cases h44 : b.getD 6 0 = 44
        · rw [dpos h44]
          simp only [cond_true, Option.bind_some]
          by_cases h48 : (b.length : Int) < 48
          · rw [dpos h48]
            exact ⟨zsn, 1, rfl, rfl, fun h => by omega⟩
          · obtain ⟨s, e, e1, e2, e3⟩ := six_eq N hN hl (by omega) (fun _ => by omega) zsn
            rw [dneg h48, e1]
            have e2' : ref22_six_1 N b false ((((0 : Int), (0 : UInt64), (0 : UInt64), ()), ((0 : Int), (0 : UInt64), (0 : UInt64), ()), (0 : Int), (0 : Int), (0 : Int), ()), (0 : Int), false, false, (0 : Int), ()) = some ((s, e, ()), ()) := e2
            rw [e2']
            simp only [cond_false, Option.bind_some]
            obtain ⟨s', e', t1, t2, t3⟩ := tail_eq N hN hl _ e3
            exact ⟨s', e', t1, t2, fun h => ⟨by omega, (t3 h).1, (t3 h).2.1, (t3 h).2.2.1, .inr ⟨h6, (t3 h).2.2.2⟩⟩⟩
        · rw [dneg h44]
          obtain ⟨s, e, e1, e2, e3⟩ := six_eq N hN hl (by omega) (fun h => absurd h h44) zsn
          simp only [cond_false, Option.bind_some, dneg h40]
          have e2' : ref22_six_1 N b false ((((0 : Int), (0 : UInt64), (0 : UInt64), ()), ((0 : Int), (0 : UInt64), (0 : UInt64), ()), (0 : Int), (0 : Int), (0 : Int), ()), (0 : Int), false, false, (0 : Int), ()) = some ((s, e, ()), ()) := e2
          rw [e1, e2']
          simp only [Option.bind_some]
          obtain ⟨s', e', t1, t2, t3⟩ := tail_eq N hN hl _ e3
          exact ⟨s', e', t1, t2, fun h => ⟨by omega, (t3 h).1, (t3 h).2.1, (t3 h).2.2.1, .inr ⟨h6, (t3 h).2.2.2⟩⟩⟩
    · rw [dneg h4, dneg h6]
      exact ⟨zsn, 3, rfl, rfl, fun h => by omega⟩
end
end Go.Proofs.YtofajgidjkjnpaaDoor.Pl

/- Plain: a block of ChaCha20, the program's and the reference's: one function. -/
namespace Go.Proofs.YtofajgidjkjnpaaDoor.Pl
open Go
noncomputable section
def rl (x : UInt32) (n : Nat) : UInt32 := shl32 x n ||| shr32 x (32 - n)
def q3 (a b d : UInt32) : UInt32 := rl (d ^^^ (a + b)) 16
def q6 (a b c d : UInt32) : UInt32 := rl (b ^^^ (c + q3 a b d)) 12
def q9 (a b c d : UInt32) : UInt32 := rl (q3 a b d ^^^ ((a + b) + q6 a b c d)) 8
def q12 (a b c d : UInt32) : UInt32 := rl (q6 a b c d ^^^ ((c + q3 a b d) + q9 a b c d)) 7
theorem quarter_ok (N : Nat) (a b c d : UInt32) : chacha_Quarter N a b c d = some (((a + b) + q6 a b c d, q12 a b c d, (c + q3 a b d) + q9 a b c d, q9 a b c d, ()), ()) := by kernel_rfl
/-- Four words of a state are mixed. -/
def mixl (s : List UInt32) (i j k l : Nat) : List UInt32 :=
  (((s.set i ((s.getD i 0 + s.getD j 0) + q6 (s.getD i 0) (s.getD j 0) (s.getD k 0) (s.getD l 0))).set j (q12 (s.getD i 0) (s.getD j 0) (s.getD k 0) (s.getD l 0))).set k ((s.getD k 0 + q3 (s.getD i 0) (s.getD j 0) (s.getD l 0)) + q9 (s.getD i 0) (s.getD j 0) (s.getD k 0) (s.getD l 0))).set l
    (q9 (s.getD i 0) (s.getD j 0) (s.getD k 0) (s.getD l 0))
def d1 (s : List UInt32) : List UInt32 := mixl (mixl (mixl (mixl s 0 4 8 12) 1 5 9 13) 2 6 10 14) 3 7 11 15
def d2 (s : List UInt32) : List UInt32 := mixl (mixl (mixl (mixl s 0 5 10 15) 1 6 11 12) 2 7 8 13) 3 4 9 14
/-- A double round. -/
def dr (s : List UInt32) : List UInt32 := d2 (d1 s)
theorem loopK_go {S E R : Type} {step : S → Option (Lo S E R)} {J : E → Option R} {N M : Nat} {x x' : S} (hN : N = M + 1) (h : step x = some (.go x')) : loopK N step J x = loopK M step J x' := by
  rw [hN, loopK_succ, h]; rfl
theorem loopK_br {S E R : Type} {step : S → Option (Lo S E R)} {J : E → Option R} {N M : Nat} {x : S} {e : E} (hN : N = M + 1) (h : step x = some (.br e)) : loopK N step J x = J e := by
  rw [hN, loopK_succ, h]; rfl
theorem s7_ok (N : Nat) (t : Int) (f s : List UInt32) (i a b c d : Nat) (hi : i < 8) (hq : g_chacha_quarters.getD i (List.replicate 4 0) = [(a : Int), (b : Int), (c : Int), (d : Int)]) (ha : a < 16) (hb : b < 16) (hc : c < 16) (hd : d < 16) :
    chacha_Block_s7 N t g_chacha_quarters (i : Int) f s = some (.go ((t, g_chacha_quarters, (i : Int) + 1, ()), (f, mixl s a b c d, ()))) := by
  unfold chacha_Block_s7
  simp (disch := omega) only [dpos, dneg, w64_of, inR_of, room_of, tmod_of, cond_true, cond_false, Bool.and_self, Bool.and_true, Bool.true_and, Bool.and_false, Bool.false_and, Bool.not_true, Bool.not_false, Option.bind_some, List.length_cons, List.length_nil, Nat.zero_add, Int.toNat_natCast, hq, List.getD_cons_zero, List.getD_cons_succ, quarter_ok, mixl]
theorem double_ok (N : Nat) (hN : 4611686018427387904 ≤ N) (t : Int) (ht : 0 ≤ t) (ht' : t < 10) (f s : List UInt32) : chacha_Block_6 N t g_chacha_quarters 0 f s = some (.go ((t + 1, ()), (f, dr s, ()))) := by
  obtain ⟨M, hM⟩ : ∃ M, N = M + 8 + 1 := ⟨N - 9, by omega⟩
  have s0 : ∀ s, chacha_Block_s7 N t g_chacha_quarters 0 f s = some (.go ((t, g_chacha_quarters, 1, ()), (f, mixl s 0 4 8 12, ()))) := fun s => s7_ok N t f s 0 0 4 8 12 (by decide) (by kernel_rfl) (by decide) (by decide) (by decide) (by decide)
  have s1 : ∀ s, chacha_Block_s7 N t g_chacha_quarters 1 f s = some (.go ((t, g_chacha_quarters, 2, ()), (f, mixl s 1 5 9 13, ()))) := fun s => s7_ok N t f s 1 1 5 9 13 (by decide) (by kernel_rfl) (by decide) (by decide) (by decide) (by decide)
  have s2 : ∀ s, chacha_Block_s7 N t g_chacha_quarters 2 f s = some (.go ((t, g_chacha_quarters, 3, ()), (f, mixl s 2 6 10 14, ()))) := fun s => s7_ok N t f s 2 2 6 10 14 (by decide) (by kernel_rfl) (by decide) (by decide) (by decide) (by decide)
  have s3 : ∀ s, chacha_Block_s7 N t g_chacha_quarters 3 f s = some (.go ((t, g_chacha_quarters, 4, ()), (f, mixl s 3 7 11 15, ()))) := fun s => s7_ok N t f s 3 3 7 11 15 (by decide) (by kernel_rfl) (by decide) (by decide) (by decide) (by decide)
  have s4 : ∀ s, chacha_Block_s7 N t g_chacha_quarters 4 f s = some (.go ((t, g_chacha_quarters, 5, ()), (f, mixl s 0 5 10 15, ()))) := fun s => s7_ok N t f s 4 0 5 10 15 (by decide) (by kernel_rfl) (by decide) (by decide) (by decide) (by decide)
  have s5 : ∀ s, chacha_Block_s7 N t g_chacha_quarters 5 f s = some (.go ((t, g_chacha_quarters, 6, ()), (f, mixl s 1 6 11 12, ()))) := fun s => s7_ok N t f s 5 1 6 11 12 (by decide) (by kernel_rfl) (by decide) (by decide) (by decide) (by decide)
  have s6 : ∀ s, chacha_Block_s7 N t g_chacha_quarters 6 f s = some (.go ((t, g_chacha_quarters, 7, ()), (f, mixl s 2 7 8 13, ()))) := fun s => s7_ok N t f s 6 2 7 8 13 (by decide) (by kernel_rfl) (by decide) (by decide) (by decide) (by decide)
  have s7 : ∀ s, chacha_Block_s7 N t g_chacha_quarters 7 f s = some (.go ((t, g_chacha_quarters, 8, ()), (f, mixl s 3 4 9 14, ()))) := fun s => s7_ok N t f s 7 3 4 9 14 (by decide) (by kernel_rfl) (by decide) (by decide) (by decide) (by decide)
  have s8 : ∀ s, chacha_Block_s7 N t g_chacha_quarters 8 f s = some (.br ((t, ()), (f, s, ()))) := fun s => by
    unfold chacha_Block_s7
    simp (disch := omega) only [dpos, dneg, w64_of, inR_of, room_of, tmod_of, cond_true, cond_false, Bool.and_self, Bool.and_true, Bool.true_and, Bool.and_false, Bool.false_and, Bool.not_true, Bool.not_false, Option.bind_some, List.length_cons, List.length_nil, Nat.zero_add]
  unfold chacha_Block_6
  rw [loopK_go (M := M + 8) hM (s0 s), loopK_go (M := M + 7) rfl (s1 _), loopK_go (M := M + 6) rfl (s2 _), loopK_go (M := M + 5) rfl (s3 _), loopK_go (M := M + 4) rfl (s4 _), loopK_go (M := M + 3) rfl (s5 _), loopK_go (M := M + 2) rfl (s6 _), loopK_go (M := M + 1) rfl (s7 _), loopK_br (M := M) rfl (s8 _)]
  unfold chacha_Block_8 dr d2 d1
  simp (disch := omega) only [dpos, dneg, w64_of, inR_of, room_of, tmod_of, cond_true, cond_false, Bool.and_self, Bool.and_true, Bool.true_and, Bool.and_false, Bool.false_and, Bool.not_true, Bool.not_false, Option.bind_some, List.length_cons, List.length_nil, Nat.zero_add]
def drs (f : List UInt32) : Nat → List UInt32
  | 0 => f
  | i + 1 => dr (drs f i)
/-- The bytes of a block. -/
def bout (f s : List UInt32) : List UInt8 := (List.range 16).flatMap fun i => let v := s.getD i 0 + f.getD i 0; [v.toUInt8, (shr32 v 8).toUInt8, (shr32 v 16).toUInt8, (shr32 v 24).toUInt8]
theorem bout_len (f s : List UInt32) : (bout f s).length = 64 := rfl
theorem bout_un (M : Nat) (s f : List UInt32) : chacha_Block_10 (M + 20) s 0 f [] = some ((true, ()), (bout f s, ())) := by kernel_rfl
theorem list12 {α : Type} {l : List α} (h : l.length = 12) : ∃ a b c d e f g i j k m n, l = [a, b, c, d, e, f, g, i, j, k, m, n] := by
  match l, h with
  | [a, b, c, d, e, f, g, i, j, k, m, n], _ => exact ⟨a, b, c, d, e, f, g, i, j, k, m, n, rfl⟩
theorem list16c {α : Type} {l : List α} (h : l.length = 16) : ∃ a b c d e f g i j k m n o p q r, l = [a, b, c, d, e, f, g, i, j, k, m, n, o, p, q, r] := by
  match l, h with
  | [a, b, c, d, e, f, g, i, j, k, m, n, o, p, q, r], _ => exact ⟨a, b, c, d, e, f, g, i, j, k, m, n, o, p, q, r, rfl⟩
def wd (l : List UInt8) (i : Nat) : UInt32 := (((l.getD (4 * i) 0).toUInt32 ||| shl32 (l.getD (4 * i + 1) 0).toUInt32 8) ||| shl32 (l.getD (4 * i + 2) 0).toUInt32 16) ||| shl32 (l.getD (4 * i + 3) 0).toUInt32 24
/-- The words at the beginning. -/
def stw (k : List UInt8) (c : UInt32) (n : List UInt8) : List UInt32 := [1634760805, 857760878, 2036477234, 1797285236, wd k 0, wd k 1, wd k 2, wd k 3, wd k 4, wd k 5, wd k 6, wd k 7, c, wd n 0, wd n 1, wd n 2]
theorem state_un (M : Nat) (c : UInt32) (k0 k1 k2 k3 k4 k5 k6 k7 k8 k9 k10 k11 k12 k13 k14 k15 k16 k17 k18 k19 k20 k21 k22 k23 k24 k25 k26 k27 k28 k29 k30 k31 n0 n1 n2 n3 n4 n5 n6 n7 n8 n9 n10 n11 : UInt8) :
    chacha_state (M + 20) [k0, k1, k2, k3, k4, k5, k6, k7, k8, k9, k10, k11, k12, k13, k14, k15, k16, k17, k18, k19, k20, k21, k22, k23, k24, k25, k26, k27, k28, k29, k30, k31] c [n0, n1, n2, n3, n4, n5, n6, n7, n8, n9, n10, n11] =
    some ((stw [k0, k1, k2, k3, k4, k5, k6, k7, k8, k9, k10, k11, k12, k13, k14, k15, k16, k17, k18, k19, k20, k21, k22, k23, k24, k25, k26, k27, k28, k29, k30, k31] c [n0, n1, n2, n3, n4, n5, n6, n7, n8, n9, n10, n11], true, ()), ()) := by kernel_rfl
theorem rstate_un (M : Nat) (c : UInt32) (k0 k1 k2 k3 k4 k5 k6 k7 k8 k9 k10 k11 k12 k13 k14 k15 k16 k17 k18 k19 k20 k21 k22 k23 k24 k25 k26 k27 k28 k29 k30 k31 n0 n1 n2 n3 n4 n5 n6 n7 n8 n9 n10 n11 : UInt8) :
    ref10_Block (M + 20) [k0, k1, k2, k3, k4, k5, k6, k7, k8, k9, k10, k11, k12, k13, k14, k15, k16, k17, k18, k19, k20, k21, k22, k23, k24, k25, k26, k27, k28, k29, k30, k31] c [n0, n1, n2, n3, n4, n5, n6, n7, n8, n9, n10, n11] =
    ref10_Block_7 (M + 20) (stw [k0, k1, k2, k3, k4, k5, k6, k7, k8, k9, k10, k11, k12, k13, k14, k15, k16, k17, k18, k19, k20, k21, k22, k23, k24, k25, k26, k27, k28, k29, k30, k31] c [n0, n1, n2, n3, n4, n5, n6, n7, n8, n9, n10, n11]) := by kernel_rfl
def cblk (k : List UInt8) (c : UInt32) (n : List UInt8) : List UInt8 := bout (stw k c n) (drs (stw k c n) 10)
theorem cblk_len (k : List UInt8) (c : UInt32) (n : List UInt8) : (cblk k c n).length = 64 := bout_len _ _
section
variable (N : Nat) (hN : 4611686018427387904 ≤ N) {k n : List UInt8} (c : UInt32) (hk : k.length = 32) (hn : n.length = 12)
include hN hk hn
theorem state_ok : chacha_state N k c n = some ((stw k c n, true, ()), ()) ∧ ref10_Block N k c n = ref10_Block_7 N (stw k c n) := by
  obtain ⟨k0, k1, k2, k3, k4, k5, k6, k7, k8, k9, k10, k11, k12, k13, k14, k15, e1⟩ := list16c (l := k.take 16) (by simp; omega)
  obtain ⟨k16, k17, k18, k19, k20, k21, k22, k23, k24, k25, k26, k27, k28, k29, k30, k31, e2⟩ := list16c (l := k.drop 16) (by simp; omega)
  obtain ⟨n0, n1, n2, n3, n4, n5, n6, n7, n8, n9, n10, n11, rfl⟩ := list12 hn
  obtain ⟨M, rfl⟩ := Nat.exists_eq_add_of_le' (show 20 ≤ N by omega)
  have e : k = [k0, k1, k2, k3, k4, k5, k6, k7, k8, k9, k10, k11, k12, k13, k14, k15, k16, k17, k18, k19, k20, k21, k22, k23, k24, k25, k26, k27, k28, k29, k30, k31] := by
    rw [← List.take_append_drop 16 k, e1, e2]; rfl
  subst e
  exact ⟨state_un M c k0 k1 k2 k3 k4 k5 k6 k7 k8 k9 k10 k11 k12 k13 k14 k15 k16 k17 k18 k19 k20 k21 k22 k23 k24 k25 k26 k27 k28 k29 k30 k31 n0 n1 n2 n3 n4 n5 n6 n7 n8 n9 n10 n11,
    rstate_un M c k0 k1 k2 k3 k4 k5 k6 k7 k8 k9 k10 k11 k12 k13 k14 k15 k16 k17 k18 k19 k20 k21 k22 k23 k24 k25 k26 k27 k28 k29 k30 k31 n0 n1 n2 n3 n4 n5 n6 n7 n8 n9 n10 n11⟩
theorem cblock_ok : chacha_Block N k c n = some ((true, ()), (cblk k c n, ())) := by
  unfold chacha_Block cblk
  rw [(state_ok N hN c hk hn).1]
  simp only [dpos, dneg, w64_of, inR_of, room_of, tmod_of, cond_true, cond_false, Bool.and_self, Bool.and_true, Bool.true_and, Bool.and_false, Bool.false_and, Bool.not_true, Bool.not_false, Option.bind_some, List.length_cons, List.length_nil, Nat.zero_add]
  generalize stw k c n = f
  unfold chacha_Block_1
  have h10N : 10 < N := by omega
  obtain ⟨M, hM⟩ := Nat.exists_eq_add_of_le' (show 20 ≤ N by omega)
  refine (loopK_run (fun i : Nat => (((i : Int), ()), (f, drs f i, ()))) (n := 10) ?_ (e := ((), (f, drs f 10, ()))) ?_ h10N).trans ?_
  · intro i hi
    show chacha_Block_s2 N (i : Int) f _ = _
    unfold chacha_Block_s2 chacha_Block_3 chacha_Block_5
    simp (disch := omega) only [dpos, dneg, w64_of, inR_of, room_of, tmod_of, cond_true, cond_false, Bool.and_self, Bool.and_true, Bool.true_and, Bool.and_false, Bool.false_and, Bool.not_true, Bool.not_false, Option.bind_some, List.length_cons, List.length_nil, Nat.zero_add, double_ok, drs, Int.natCast_add, Int.natCast_one]
  · show chacha_Block_s2 N _ f _ = _
    unfold chacha_Block_s2
    simp (disch := omega) only [dpos, dneg, w64_of, inR_of, room_of, tmod_of, cond_true, cond_false, Bool.and_self, Bool.and_true, Bool.true_and, Bool.and_false, Bool.false_and, Bool.not_true, Bool.not_false, Option.bind_some, List.length_cons, List.length_nil, Nat.zero_add]
  · generalize drs f 10 = s
    show chacha_Block_9 N f s = _
    unfold chacha_Block_9
    rw [hM, bout_un]
end
end
end Go.Proofs.YtofajgidjkjnpaaDoor.Pl

/- Plain: ChaCha20 over bytes, the program's and the reference's. -/
namespace Go.Proofs.YtofajgidjkjnpaaDoor.Pl
open Go
noncomputable section
/-- The encrypted bytes. -/
def cx (k : List UInt8) (c : UInt32) (n b : List UInt8) : List UInt8 := (List.range b.length).map fun i => b.getD i 0 ^^^ (cblk k (c + UInt32.ofNat (i / 64)) n).getD (i % 64) 0
theorem cx_len (k : List UInt8) (c : UInt32) (n b : List UInt8) : (cx k c n b).length = b.length := by simp [cx]
theorem cx_get (k : List UInt8) (c : UInt32) (n b : List UInt8) {i : Nat} (h : i < b.length) : (cx k c n b).getD i 0 = b.getD i 0 ^^^ (cblk k (c + UInt32.ofNat (i / 64)) n).getD (i % 64) 0 := by
  simp [cx, List.getD, h]
theorem cx_twice (k : List UInt8) (c : UInt32) (n b : List UInt8) : cx k c n (cx k c n b) = b := by
  apply List.ext_getElem
  · rw [cx_len, cx_len]
  · intro i h1 h2
    have e1 : (cx k c n (cx k c n b)).getD i 0 = (cx k c n (cx k c n b))[i] := by simp [List.getD, h1]
    have e2 : b.getD i 0 = b[i] := by simp [List.getD, h2]
    rw [← e1, ← e2, cx_get _ _ _ _ (by rw [cx_len]; exact h2), cx_get _ _ _ _ h2, UInt8.xor_assoc, UInt8.xor_self, UInt8.xor_zero]
def ctr (c : UInt32) : Nat → UInt32
  | 0 => c
  | i + 1 => if i % 64 = 0 then ctr c i + 1 else ctr c i
theorem ctr_val (c : UInt32) (i : Nat) : ctr c i = c + UInt32.ofNat ((i + 63) / 64) := by
  induction i with
  | zero => simp [ctr]
  | succ i ih =>
    rw [ctr]
    split
    · rename_i h
      rw [ih, show (i + 1 + 63) / 64 = (i + 63) / 64 + 1 by omega, UInt32.ofNat_add, UInt32.add_assoc]; rfl
    · rename_i h
      rw [ih, show (i + 1 + 63) / 64 = (i + 63) / 64 by omega]
def msk (k : List UInt8) (c : UInt32) (n : List UInt8) : Nat → List UInt8
  | 0 => []
  | i + 1 => cblk k (c + UInt32.ofNat (i / 64)) n
section
variable (N : Nat) (hN : 4611686018427387904 ≤ N) {k n : List UInt8} (c : UInt32) (hk : k.length = 32) (hn : n.length = 12)
include hN hk hn
theorem xor_ok {b : List UInt8} (hb : b.length ≤ 17592186044416) : chacha_Xor N k c n b = some ((true, ()), (cx k c n b, ())) := by
  unfold chacha_Xor
  rw [(state_ok N hN c hk hn).1]
  simp only [dpos, dneg, w64_of, inR_of, room_of, tmod_of, cond_true, cond_false, Bool.and_self, Bool.and_true, Bool.true_and, Bool.and_false, Bool.false_and, Bool.not_true, Bool.not_false, Option.bind_some, List.length_cons, List.length_nil, Nat.zero_add]
  unfold chacha_Xor_1
  have hT := cx_len k c n b
  have hg := fun i h => cx_get k c n b (i := i) h
  generalize cx k c n b = T at hT hg
  have hbN : b.length < N := by omega
  refine (loopK_run (fun i : Nat => ((k, ctr c i, n, b, (b.length : Int), (i : Int), ()), (T.take i, msk k c n i, ()))) (n := b.length) ?_ (e := ((), (T, ()))) ?_ hbN).trans rfl
  · intro i hi
    have hti : (T.take i).length = i := by simp; omega
    have hcl := cblk_len k (c + UInt32.ofNat (i / 64)) n
    have ht := hg i hi
    show chacha_Xor_s2 N k _ n b _ _ _ _ = _
    unfold chacha_Xor_s2
    rw [take_snoc T 0 (by omega), ht]
    have e64 : ((i : Int) % 64).toNat = i % 64 := by omega
    by_cases hm : i % 64 = 0
    · have hbl : chacha_Block N k (ctr c i) n = some ((true, ()), (cblk k (c + UInt32.ofNat (i / 64)) n, ())) := by
        rw [cblock_ok N hN _ hk hn, ctr_val, show (i + 63) / 64 = i / 64 by omega]
      simp (disch := omega) only [dpos, dneg, w64_of, inR_of, room_of, tmod_of, cond_true, cond_false, Bool.and_self, Bool.and_true, Bool.true_and, Bool.and_false, Bool.false_and, Bool.not_true, Bool.not_false, Option.bind_some, List.length_cons, List.length_nil, Nat.zero_add, Int.toNat_natCast, e64, hbl, hti, ctr, msk, if_pos, Int.natCast_add, Int.natCast_one]
    · have hms : msk k c n i = cblk k (c + UInt32.ofNat (i / 64)) n := by
        cases i with
        | zero => simp at hm
        | succ i => rw [msk, show (i + 1) / 64 = i / 64 by omega]
      rw [hms]
      simp (disch := omega) only [dpos, dneg, w64_of, inR_of, room_of, tmod_of, cond_true, cond_false, Bool.and_self, Bool.and_true, Bool.true_and, Bool.and_false, Bool.false_and, Bool.not_true, Bool.not_false, Option.bind_some, List.length_cons, List.length_nil, Nat.zero_add, Int.toNat_natCast, e64, hti, ctr, msk, if_neg, Int.natCast_add, Int.natCast_one]
  · show chacha_Xor_s2 N k _ n b _ _ _ _ = _
    unfold chacha_Xor_s2
    simp (disch := omega) only [dpos, dneg, w64_of, inR_of, room_of, tmod_of, cond_true, cond_false, Bool.and_self, Bool.and_true, Bool.true_and, Bool.and_false, Bool.false_and, Bool.not_true, Bool.not_false, Option.bind_some, List.length_cons, List.length_nil, Nat.zero_add]
    rw [List.take_of_length_le (by omega)]
end
end
end Go.Proofs.YtofajgidjkjnpaaDoor.Pl

/- Plain: the number of bytes in five limbs (poly1305.number). -/
namespace Go.Proofs.YtofajgidjkjnpaaDoor.Pl
open Go Poly
def us (l : List UInt64) : List Nat := l.map UInt64.toNat
def ns (l : List UInt8) : List Nat := l.map UInt8.toNat
theorem lo_add (a : UInt64) (x : UInt8) {k c : Nat} (hk : k ≤ 25) (hc : 2 ^ k = c) (h : a.toNat < 67108864) : (a + (shl64 x.toUInt64 k &&& 67108863)).toNat = a.toNat + x.toNat * c % 67108864 := by
  have hx : x.toNat < 256 := x.toNat_lt
  have h1 : (shl64 x.toUInt64 k).toNat = x.toNat * c := by
    show (x.toUInt64.toBitVec <<< k).toNat = _
    rw [BitVec.toNat_shiftLeft, Nat.shiftLeft_eq, hc]
    have e : x.toUInt64.toBitVec.toNat = x.toNat := UInt8.toNat_toUInt64 x
    rw [e]
    apply Nat.mod_eq_of_lt
    have : c ≤ 2 ^ 25 := by rw [← hc]; exact Nat.pow_le_pow_right (by decide) hk
    have := Nat.mul_le_mul (Nat.le_of_lt hx) this
    omega
  have h2 : (shl64 x.toUInt64 k &&& 67108863).toNat = x.toNat * c % 67108864 := by
    rw [UInt64.toNat_and, h1]
    exact Nat.and_two_pow_sub_one_eq_mod _ 26
  rw [UInt64.toNat_add, h2]
  apply Nat.mod_eq_of_lt
  omega
theorem hi_add (a : UInt64) (x : UInt8) {k c : Nat} (hc : 2 ^ k = c) (h : a.toNat < 67108864) : (a + shr64 x.toUInt64 k).toNat = a.toNat + x.toNat / c := by
  have hx : x.toNat < 256 := x.toNat_lt
  have h1 : (shr64 x.toUInt64 k).toNat = x.toNat / c := by
    show (x.toUInt64.toBitVec >>> k).toNat = _
    rw [BitVec.toNat_ushiftRight, Nat.shiftRight_eq_div_pow, hc]
    have e : x.toUInt64.toBitVec.toNat = x.toNat := UInt8.toNat_toUInt64 x
    rw [e]
  rw [UInt64.toNat_add, h1]
  have : x.toNat / c ≤ x.toNat := Nat.div_le_self ..
  apply Nat.mod_eq_of_lt
  omega
theorem low_of {bs l : List Nat} {i : Nat} (h : NInv bs l i) {j : Nat} (hj : j < 5) : l.getD j 0 < 67108864 := by
  refine Nat.lt_of_lt_of_le (h.low j hj) ?_
  unfold Poly.room
  exact Nat.pow_le_pow_right (by decide : 0 < 2) (Nat.min_le_left 26 _)
theorem list5u {l : List UInt64} (h : l.length = 5) : ∃ a b c d e, l = [a, b, c, d, e] := by
  match l, h with
  | [a, b, c, d, e], _ => exact ⟨a, b, c, d, e, rfl⟩
theorem congr5 {a b c d e a' b' c' d' e' : Nat} (h0 : a = a') (h1 : b = b') (h2 : c = c') (h3 : d = d') (h4 : e = e') : [a, b, c, d, e] = [a', b', c', d', e'] := by
  subst h0; subst h1; subst h2; subst h3; subst h4; rfl
theorem num_0 (N : Nat) (b : List UInt8) (n : Int) (t : List UInt64) (a0 a1 a2 a3 a4 : UInt64) : poly1305_number_s2 N b n 0 t [a0, a1, a2, a3, a4] = bif decide ((0 : Int) < n) then (bif inR (0 : Int) b.length then some (.go ((b, n, (1 : Int), ()), (t, [a0 + (shl64 (b.getD 0 0).toUInt64 0 &&& 67108863), a1, a2, a3, a4], ()))) else none) else some (.br ((), (t, [a0, a1, a2, a3, a4], ()))) := by kernel_rfl
theorem nus_0 {a0 a1 a2 a3 a4 : UInt64} (x : UInt8) (h0 : a0.toNat < 67108864) (h1 : a1.toNat < 67108864) (h2 : a2.toNat < 67108864) (h3 : a3.toNat < 67108864) (h4 : a4.toNat < 67108864) : us [a0 + (shl64 x.toUInt64 0 &&& 67108863), a1, a2, a3, a4] = nstep (us [a0, a1, a2, a3, a4]) 0 x.toNat :=
  (congr5 (lo_add _ _ (by decide) rfl h0) rfl rfl rfl rfl).trans (nstep_0 _ _ _ _ _ _).symm
theorem num_1 (N : Nat) (b : List UInt8) (n : Int) (t : List UInt64) (a0 a1 a2 a3 a4 : UInt64) : poly1305_number_s2 N b n 1 t [a0, a1, a2, a3, a4] = bif decide ((1 : Int) < n) then (bif inR (1 : Int) b.length then some (.go ((b, n, (2 : Int), ()), (t, [a0 + (shl64 (b.getD 1 0).toUInt64 8 &&& 67108863), a1, a2, a3, a4], ()))) else none) else some (.br ((), (t, [a0, a1, a2, a3, a4], ()))) := by kernel_rfl
theorem nus_1 {a0 a1 a2 a3 a4 : UInt64} (x : UInt8) (h0 : a0.toNat < 67108864) (h1 : a1.toNat < 67108864) (h2 : a2.toNat < 67108864) (h3 : a3.toNat < 67108864) (h4 : a4.toNat < 67108864) : us [a0 + (shl64 x.toUInt64 8 &&& 67108863), a1, a2, a3, a4] = nstep (us [a0, a1, a2, a3, a4]) 1 x.toNat :=
  (congr5 (lo_add _ _ (by decide) rfl h0) rfl rfl rfl rfl).trans (nstep_1 _ _ _ _ _ _).symm
theorem num_2 (N : Nat) (b : List UInt8) (n : Int) (t : List UInt64) (a0 a1 a2 a3 a4 : UInt64) : poly1305_number_s2 N b n 2 t [a0, a1, a2, a3, a4] = bif decide ((2 : Int) < n) then (bif inR (2 : Int) b.length then some (.go ((b, n, (3 : Int), ()), (t, [a0 + (shl64 (b.getD 2 0).toUInt64 16 &&& 67108863), a1, a2, a3, a4], ()))) else none) else some (.br ((), (t, [a0, a1, a2, a3, a4], ()))) := by kernel_rfl
theorem nus_2 {a0 a1 a2 a3 a4 : UInt64} (x : UInt8) (h0 : a0.toNat < 67108864) (h1 : a1.toNat < 67108864) (h2 : a2.toNat < 67108864) (h3 : a3.toNat < 67108864) (h4 : a4.toNat < 67108864) : us [a0 + (shl64 x.toUInt64 16 &&& 67108863), a1, a2, a3, a4] = nstep (us [a0, a1, a2, a3, a4]) 2 x.toNat :=
  (congr5 (lo_add _ _ (by decide) rfl h0) rfl rfl rfl rfl).trans (nstep_2 _ _ _ _ _ _).symm
theorem num_3 (N : Nat) (b : List UInt8) (n : Int) (t : List UInt64) (a0 a1 a2 a3 a4 : UInt64) : poly1305_number_s2 N b n 3 t [a0, a1, a2, a3, a4] = bif decide ((3 : Int) < n) then (bif inR (3 : Int) b.length then some (.go ((b, n, (4 : Int), ()), (t, [a0 + (shl64 (b.getD 3 0).toUInt64 24 &&& 67108863), a1 + shr64 (b.getD 3 0).toUInt64 2, a2, a3, a4], ()))) else none) else some (.br ((), (t, [a0, a1, a2, a3, a4], ()))) := by kernel_rfl
theorem nus_3 {a0 a1 a2 a3 a4 : UInt64} (x : UInt8) (h0 : a0.toNat < 67108864) (h1 : a1.toNat < 67108864) (h2 : a2.toNat < 67108864) (h3 : a3.toNat < 67108864) (h4 : a4.toNat < 67108864) : us [a0 + (shl64 x.toUInt64 24 &&& 67108863), a1 + shr64 x.toUInt64 2, a2, a3, a4] = nstep (us [a0, a1, a2, a3, a4]) 3 x.toNat :=
  (congr5 (lo_add _ _ (by decide) rfl h0) (hi_add _ _ rfl h1) rfl rfl rfl).trans (nstep_3 _ _ _ _ _ _).symm
theorem num_4 (N : Nat) (b : List UInt8) (n : Int) (t : List UInt64) (a0 a1 a2 a3 a4 : UInt64) : poly1305_number_s2 N b n 4 t [a0, a1, a2, a3, a4] = bif decide ((4 : Int) < n) then (bif inR (4 : Int) b.length then some (.go ((b, n, (5 : Int), ()), (t, [a0, a1 + (shl64 (b.getD 4 0).toUInt64 6 &&& 67108863), a2, a3, a4], ()))) else none) else some (.br ((), (t, [a0, a1, a2, a3, a4], ()))) := by kernel_rfl
theorem nus_4 {a0 a1 a2 a3 a4 : UInt64} (x : UInt8) (h0 : a0.toNat < 67108864) (h1 : a1.toNat < 67108864) (h2 : a2.toNat < 67108864) (h3 : a3.toNat < 67108864) (h4 : a4.toNat < 67108864) : us [a0, a1 + (shl64 x.toUInt64 6 &&& 67108863), a2, a3, a4] = nstep (us [a0, a1, a2, a3, a4]) 4 x.toNat :=
  (congr5 rfl (lo_add _ _ (by decide) rfl h1) rfl rfl rfl).trans (nstep_4 _ _ _ _ _ _).symm
theorem num_5 (N : Nat) (b : List UInt8) (n : Int) (t : List UInt64) (a0 a1 a2 a3 a4 : UInt64) : poly1305_number_s2 N b n 5 t [a0, a1, a2, a3, a4] = bif decide ((5 : Int) < n) then (bif inR (5 : Int) b.length then some (.go ((b, n, (6 : Int), ()), (t, [a0, a1 + (shl64 (b.getD 5 0).toUInt64 14 &&& 67108863), a2, a3, a4], ()))) else none) else some (.br ((), (t, [a0, a1, a2, a3, a4], ()))) := by kernel_rfl
theorem nus_5 {a0 a1 a2 a3 a4 : UInt64} (x : UInt8) (h0 : a0.toNat < 67108864) (h1 : a1.toNat < 67108864) (h2 : a2.toNat < 67108864) (h3 : a3.toNat < 67108864) (h4 : a4.toNat < 67108864) : us [a0, a1 + (shl64 x.toUInt64 14 &&& 67108863), a2, a3, a4] = nstep (us [a0, a1, a2, a3, a4]) 5 x.toNat :=
  (congr5 rfl (lo_add _ _ (by decide) rfl h1) rfl rfl rfl).trans (nstep_5 _ _ _ _ _ _).symm
theorem num_6 (N : Nat) (b : List UInt8) (n : Int) (t : List UInt64) (a0 a1 a2 a3 a4 : UInt64) : poly1305_number_s2 N b n 6 t [a0, a1, a2, a3, a4] = bif decide ((6 : Int) < n) then (bif inR (6 : Int) b.length then some (.go ((b, n, (7 : Int), ()), (t, [a0, a1 + (shl64 (b.getD 6 0).toUInt64 22 &&& 67108863), a2 + shr64 (b.getD 6 0).toUInt64 4, a3, a4], ()))) else none) else some (.br ((), (t, [a0, a1, a2, a3, a4], ()))) := by kernel_rfl
theorem nus_6 {a0 a1 a2 a3 a4 : UInt64} (x : UInt8) (h0 : a0.toNat < 67108864) (h1 : a1.toNat < 67108864) (h2 : a2.toNat < 67108864) (h3 : a3.toNat < 67108864) (h4 : a4.toNat < 67108864) : us [a0, a1 + (shl64 x.toUInt64 22 &&& 67108863), a2 + shr64 x.toUInt64 4, a3, a4] = nstep (us [a0, a1, a2, a3, a4]) 6 x.toNat :=
  (congr5 rfl (lo_add _ _ (by decide) rfl h1) (hi_add _ _ rfl h2) rfl rfl).trans (nstep_6 _ _ _ _ _ _).symm
theorem num_7 (N : Nat) (b : List UInt8) (n : Int) (t : List UInt64) (a0 a1 a2 a3 a4 : UInt64) : poly1305_number_s2 N b n 7 t [a0, a1, a2, a3, a4] = bif decide ((7 : Int) < n) then (bif inR (7 : Int) b.length then some (.go ((b, n, (8 : Int), ()), (t, [a0, a1, a2 + (shl64 (b.getD 7 0).toUInt64 4 &&& 67108863), a3, a4], ()))) else none) else some (.br ((), (t, [a0, a1, a2, a3, a4], ()))) := by kernel_rfl
theorem nus_7 {a0 a1 a2 a3 a4 : UInt64} (x : UInt8) (h0 : a0.toNat < 67108864) (h1 : a1.toNat < 67108864) (h2 : a2.toNat < 67108864) (h3 : a3.toNat < 67108864) (h4 : a4.toNat < 67108864) : us [a0, a1, a2 + (shl64 x.toUInt64 4 &&& 67108863), a3, a4] = nstep (us [a0, a1, a2, a3, a4]) 7 x.toNat :=
  (congr5 rfl rfl (lo_add _ _ (by decide) rfl h2) rfl rfl).trans (nstep_7 _ _ _ _ _ _).symm
theorem num_8 (N : Nat) (b : List UInt8) (n : Int) (t : List UInt64) (a0 a1 a2 a3 a4 : UInt64) : poly1305_number_s2 N b n 8 t [a0, a1, a2, a3, a4] = bif decide ((8 : Int) < n) then (bif inR (8 : Int) b.length then some (.go ((b, n, (9 : Int), ()), (t, [a0, a1, a2 + (shl64 (b.getD 8 0).toUInt64 12 &&& 67108863), a3, a4], ()))) else none) else some (.br ((), (t, [a0, a1, a2, a3, a4], ()))) := by kernel_rfl
theorem nus_8 {a0 a1 a2 a3 a4 : UInt64} (x : UInt8) (h0 : a0.toNat < 67108864) (h1 : a1.toNat < 67108864) (h2 : a2.toNat < 67108864) (h3 : a3.toNat < 67108864) (h4 : a4.toNat < 67108864) : us [a0, a1, a2 + (shl64 x.toUInt64 12 &&& 67108863), a3, a4] = nstep (us [a0, a1, a2, a3, a4]) 8 x.toNat :=
  (congr5 rfl rfl (lo_add _ _ (by decide) rfl h2) rfl rfl).trans (nstep_8 _ _ _ _ _ _).symm
theorem num_9 (N : Nat) (b : List UInt8) (n : Int) (t : List UInt64) (a0 a1 a2 a3 a4 : UInt64) : poly1305_number_s2 N b n 9 t [a0, a1, a2, a3, a4] = bif decide ((9 : Int) < n) then (bif inR (9 : Int) b.length then some (.go ((b, n, (10 : Int), ()), (t, [a0, a1, a2 + (shl64 (b.getD 9 0).toUInt64 20 &&& 67108863), a3 + shr64 (b.getD 9 0).toUInt64 6, a4], ()))) else none) else some (.br ((), (t, [a0, a1, a2, a3, a4], ()))) := by kernel_rfl
theorem nus_9 {a0 a1 a2 a3 a4 : UInt64} (x : UInt8) (h0 : a0.toNat < 67108864) (h1 : a1.toNat < 67108864) (h2 : a2.toNat < 67108864) (h3 : a3.toNat < 67108864) (h4 : a4.toNat < 67108864) : us [a0, a1, a2 + (shl64 x.toUInt64 20 &&& 67108863), a3 + shr64 x.toUInt64 6, a4] = nstep (us [a0, a1, a2, a3, a4]) 9 x.toNat :=
  (congr5 rfl rfl (lo_add _ _ (by decide) rfl h2) (hi_add _ _ rfl h3) rfl).trans (nstep_9 _ _ _ _ _ _).symm
theorem num_10 (N : Nat) (b : List UInt8) (n : Int) (t : List UInt64) (a0 a1 a2 a3 a4 : UInt64) : poly1305_number_s2 N b n 10 t [a0, a1, a2, a3, a4] = bif decide ((10 : Int) < n) then (bif inR (10 : Int) b.length then some (.go ((b, n, (11 : Int), ()), (t, [a0, a1, a2, a3 + (shl64 (b.getD 10 0).toUInt64 2 &&& 67108863), a4], ()))) else none) else some (.br ((), (t, [a0, a1, a2, a3, a4], ()))) := by kernel_rfl
theorem nus_10 {a0 a1 a2 a3 a4 : UInt64} (x : UInt8) (h0 : a0.toNat < 67108864) (h1 : a1.toNat < 67108864) (h2 : a2.toNat < 67108864) (h3 : a3.toNat < 67108864) (h4 : a4.toNat < 67108864) : us [a0, a1, a2, a3 + (shl64 x.toUInt64 2 &&& 67108863), a4] = nstep (us [a0, a1, a2, a3, a4]) 10 x.toNat :=
  (congr5 rfl rfl rfl (lo_add _ _ (by decide) rfl h3) rfl).trans (nstep_10 _ _ _ _ _ _).symm
theorem num_11 (N : Nat) (b : List UInt8) (n : Int) (t : List UInt64) (a0 a1 a2 a3 a4 : UInt64) : poly1305_number_s2 N b n 11 t [a0, a1, a2, a3, a4] = bif decide ((11 : Int) < n) then (bif inR (11 : Int) b.length then some (.go ((b, n, (12 : Int), ()), (t, [a0, a1, a2, a3 + (shl64 (b.getD 11 0).toUInt64 10 &&& 67108863), a4], ()))) else none) else some (.br ((), (t, [a0, a1, a2, a3, a4], ()))) := by kernel_rfl
theorem nus_11 {a0 a1 a2 a3 a4 : UInt64} (x : UInt8) (h0 : a0.toNat < 67108864) (h1 : a1.toNat < 67108864) (h2 : a2.toNat < 67108864) (h3 : a3.toNat < 67108864) (h4 : a4.toNat < 67108864) : us [a0, a1, a2, a3 + (shl64 x.toUInt64 10 &&& 67108863), a4] = nstep (us [a0, a1, a2, a3, a4]) 11 x.toNat :=
  (congr5 rfl rfl rfl (lo_add _ _ (by decide) rfl h3) rfl).trans (nstep_11 _ _ _ _ _ _).symm
theorem num_12 (N : Nat) (b : List UInt8) (n : Int) (t : List UInt64) (a0 a1 a2 a3 a4 : UInt64) : poly1305_number_s2 N b n 12 t [a0, a1, a2, a3, a4] = bif decide ((12 : Int) < n) then (bif inR (12 : Int) b.length then some (.go ((b, n, (13 : Int), ()), (t, [a0, a1, a2, a3 + (shl64 (b.getD 12 0).toUInt64 18 &&& 67108863), a4], ()))) else none) else some (.br ((), (t, [a0, a1, a2, a3, a4], ()))) := by kernel_rfl
theorem nus_12 {a0 a1 a2 a3 a4 : UInt64} (x : UInt8) (h0 : a0.toNat < 67108864) (h1 : a1.toNat < 67108864) (h2 : a2.toNat < 67108864) (h3 : a3.toNat < 67108864) (h4 : a4.toNat < 67108864) : us [a0, a1, a2, a3 + (shl64 x.toUInt64 18 &&& 67108863), a4] = nstep (us [a0, a1, a2, a3, a4]) 12 x.toNat :=
  (congr5 rfl rfl rfl (lo_add _ _ (by decide) rfl h3) rfl).trans (nstep_12 _ _ _ _ _ _).symm
theorem num_13 (N : Nat) (b : List UInt8) (n : Int) (t : List UInt64) (a0 a1 a2 a3 a4 : UInt64) : poly1305_number_s2 N b n 13 t [a0, a1, a2, a3, a4] = bif decide ((13 : Int) < n) then (bif inR (13 : Int) b.length then some (.go ((b, n, (14 : Int), ()), (t, [a0, a1, a2, a3, a4 + (shl64 (b.getD 13 0).toUInt64 0 &&& 67108863)], ()))) else none) else some (.br ((), (t, [a0, a1, a2, a3, a4], ()))) := by kernel_rfl
theorem nus_13 {a0 a1 a2 a3 a4 : UInt64} (x : UInt8) (h0 : a0.toNat < 67108864) (h1 : a1.toNat < 67108864) (h2 : a2.toNat < 67108864) (h3 : a3.toNat < 67108864) (h4 : a4.toNat < 67108864) : us [a0, a1, a2, a3, a4 + (shl64 x.toUInt64 0 &&& 67108863)] = nstep (us [a0, a1, a2, a3, a4]) 13 x.toNat :=
  (congr5 rfl rfl rfl rfl (lo_add _ _ (by decide) rfl h4)).trans (nstep_13 _ _ _ _ _ _).symm
theorem num_14 (N : Nat) (b : List UInt8) (n : Int) (t : List UInt64) (a0 a1 a2 a3 a4 : UInt64) : poly1305_number_s2 N b n 14 t [a0, a1, a2, a3, a4] = bif decide ((14 : Int) < n) then (bif inR (14 : Int) b.length then some (.go ((b, n, (15 : Int), ()), (t, [a0, a1, a2, a3, a4 + (shl64 (b.getD 14 0).toUInt64 8 &&& 67108863)], ()))) else none) else some (.br ((), (t, [a0, a1, a2, a3, a4], ()))) := by kernel_rfl
theorem nus_14 {a0 a1 a2 a3 a4 : UInt64} (x : UInt8) (h0 : a0.toNat < 67108864) (h1 : a1.toNat < 67108864) (h2 : a2.toNat < 67108864) (h3 : a3.toNat < 67108864) (h4 : a4.toNat < 67108864) : us [a0, a1, a2, a3, a4 + (shl64 x.toUInt64 8 &&& 67108863)] = nstep (us [a0, a1, a2, a3, a4]) 14 x.toNat :=
  (congr5 rfl rfl rfl rfl (lo_add _ _ (by decide) rfl h4)).trans (nstep_14 _ _ _ _ _ _).symm
theorem num_15 (N : Nat) (b : List UInt8) (n : Int) (t : List UInt64) (a0 a1 a2 a3 a4 : UInt64) : poly1305_number_s2 N b n 15 t [a0, a1, a2, a3, a4] = bif decide ((15 : Int) < n) then (bif inR (15 : Int) b.length then some (.go ((b, n, (16 : Int), ()), (t, [a0, a1, a2, a3, a4 + (shl64 (b.getD 15 0).toUInt64 16 &&& 67108863)], ()))) else none) else some (.br ((), (t, [a0, a1, a2, a3, a4], ()))) := by kernel_rfl
theorem nus_15 {a0 a1 a2 a3 a4 : UInt64} (x : UInt8) (h0 : a0.toNat < 67108864) (h1 : a1.toNat < 67108864) (h2 : a2.toNat < 67108864) (h3 : a3.toNat < 67108864) (h4 : a4.toNat < 67108864) : us [a0, a1, a2, a3, a4 + (shl64 x.toUInt64 16 &&& 67108863)] = nstep (us [a0, a1, a2, a3, a4]) 15 x.toNat :=
  (congr5 rfl rfl rfl rfl (lo_add _ _ (by decide) rfl h4)).trans (nstep_15 _ _ _ _ _ _).symm
theorem num_16 (N : Nat) (b : List UInt8) (n : Int) (t : List UInt64) (a0 a1 a2 a3 a4 : UInt64) : poly1305_number_s2 N b n 16 t [a0, a1, a2, a3, a4] = bif decide ((16 : Int) < n) then (bif inR (16 : Int) b.length then some (.go ((b, n, (17 : Int), ()), (t, [a0, a1, a2, a3, a4 + (shl64 (b.getD 16 0).toUInt64 24 &&& 67108863)], ()))) else none) else some (.br ((), (t, [a0, a1, a2, a3, a4], ()))) := by kernel_rfl
theorem nus_16 {a0 a1 a2 a3 a4 : UInt64} (x : UInt8) (h0 : a0.toNat < 67108864) (h1 : a1.toNat < 67108864) (h2 : a2.toNat < 67108864) (h3 : a3.toNat < 67108864) (h4 : a4.toNat < 67108864) : us [a0, a1, a2, a3, a4 + (shl64 x.toUInt64 24 &&& 67108863)] = nstep (us [a0, a1, a2, a3, a4]) 16 x.toNat :=
  (congr5 rfl rfl rfl rfl (lo_add _ _ (by decide) rfl h4)).trans (nstep_16 _ _ _ _ _ _).symm
theorem num_step (N : Nat) {b : List UInt8} {l : List UInt64} (t : List UInt64) {i : Nat} (h : NInv (ns b) (us l) i) (hi : i < 17) (hb : i < b.length) (h16 : i = 16 → (b.getD i 0).toNat ≤ 3) :
    ∃ l', poly1305_number_s2 N b (b.length : Int) (i : Int) t l = some (.go ((b, (b.length : Int), ((i + 1 : Nat) : Int), ()), (t, l', ()))) ∧ NInv (ns b) (us l') (i + 1) := by
  have hlen : l.length = 5 := by have := h.len; simpa [us] using this
  have hx : (ns b).getD i 0 = (b.getD i 0).toNat := by simp [ns, List.getD, hb]
  have hs := h.step hi (by simpa [ns] using hb) (by rw [hx]; exact (b.getD i 0).toNat_lt) (by rw [hx]; exact h16)
  rw [hx] at hs
  have l0 := low_of h (j := 0) (by omega); have l1 := low_of h (j := 1) (by omega); have l2 := low_of h (j := 2) (by omega); have l3 := low_of h (j := 3) (by omega); have l4 := low_of h (j := 4) (by omega)
  obtain ⟨a0, a1, a2, a3, a4, rfl⟩ := list5u hlen
  have hd : decide ((i : Int) < (b.length : Int)) = true := dpos (by omega)
  have hr : inR (i : Int) b.length = true := inR_of (by omega) (by omega)
  rcases (by omega : i = 0 ∨ i = 1 ∨ i = 2 ∨ i = 3 ∨ i = 4 ∨ i = 5 ∨ i = 6 ∨ i = 7 ∨ i = 8 ∨ i = 9 ∨ i = 10 ∨ i = 11 ∨ i = 12 ∨ i = 13 ∨ i = 14 ∨ i = 15 ∨ i = 16) with rfl | rfl | rfl | rfl | rfl | rfl | rfl | rfl | rfl | rfl | rfl | rfl | rfl | rfl | rfl | rfl | rfl
  · exact ⟨_, (num_0 N b _ t a0 a1 a2 a3 a4).trans (by rw [show decide ((0 : Int) < (b.length : Int)) = true from hd, show inR (0 : Int) b.length = true from hr]; rfl), by rw [nus_0 _ l0 l1 l2 l3 l4]; exact hs⟩
  · exact ⟨_, (num_1 N b _ t a0 a1 a2 a3 a4).trans (by rw [show decide ((1 : Int) < (b.length : Int)) = true from hd, show inR (1 : Int) b.length = true from hr]; rfl), by rw [nus_1 _ l0 l1 l2 l3 l4]; exact hs⟩
  · exact ⟨_, (num_2 N b _ t a0 a1 a2 a3 a4).trans (by rw [show decide ((2 : Int) < (b.length : Int)) = true from hd, show inR (2 : Int) b.length = true from hr]; rfl), by rw [nus_2 _ l0 l1 l2 l3 l4]; exact hs⟩
  · exact ⟨_, (num_3 N b _ t a0 a1 a2 a3 a4).trans (by rw [show decide ((3 : Int) < (b.length : Int)) = true from hd, show inR (3 : Int) b.length = true from hr]; rfl), by rw [nus_3 _ l0 l1 l2 l3 l4]; exact hs⟩
  · exact ⟨_, (num_4 N b _ t a0 a1 a2 a3 a4).trans (by rw [show decide ((4 : Int) < (b.length : Int)) = true from hd, show inR (4 : Int) b.length = true from hr]; rfl), by rw [nus_4 _ l0 l1 l2 l3 l4]; exact hs⟩
  · exact ⟨_, (num_5 N b _ t a0 a1 a2 a3 a4).trans (by rw [show decide ((5 : Int) < (b.length : Int)) = true from hd, show inR (5 : Int) b.length = true from hr]; rfl), by rw [nus_5 _ l0 l1 l2 l3 l4]; exact hs⟩
  · exact ⟨_, (num_6 N b _ t a0 a1 a2 a3 a4).trans (by rw [show decide ((6 : Int) < (b.length : Int)) = true from hd, show inR (6 : Int) b.length = true from hr]; rfl), by rw [nus_6 _ l0 l1 l2 l3 l4]; exact hs⟩
  · exact ⟨_, (num_7 N b _ t a0 a1 a2 a3 a4).trans (by rw [show decide ((7 : Int) < (b.length : Int)) = true from hd, show inR (7 : Int) b.length = true from hr]; rfl), by rw [nus_7 _ l0 l1 l2 l3 l4]; exact hs⟩
  · exact ⟨_, (num_8 N b _ t a0 a1 a2 a3 a4).trans (by rw [show decide ((8 : Int) < (b.length : Int)) = true from hd, show inR (8 : Int) b.length = true from hr]; rfl), by rw [nus_8 _ l0 l1 l2 l3 l4]; exact hs⟩
  · exact ⟨_, (num_9 N b _ t a0 a1 a2 a3 a4).trans (by rw [show decide ((9 : Int) < (b.length : Int)) = true from hd, show inR (9 : Int) b.length = true from hr]; rfl), by rw [nus_9 _ l0 l1 l2 l3 l4]; exact hs⟩
  · exact ⟨_, (num_10 N b _ t a0 a1 a2 a3 a4).trans (by rw [show decide ((10 : Int) < (b.length : Int)) = true from hd, show inR (10 : Int) b.length = true from hr]; rfl), by rw [nus_10 _ l0 l1 l2 l3 l4]; exact hs⟩
  · exact ⟨_, (num_11 N b _ t a0 a1 a2 a3 a4).trans (by rw [show decide ((11 : Int) < (b.length : Int)) = true from hd, show inR (11 : Int) b.length = true from hr]; rfl), by rw [nus_11 _ l0 l1 l2 l3 l4]; exact hs⟩
  · exact ⟨_, (num_12 N b _ t a0 a1 a2 a3 a4).trans (by rw [show decide ((12 : Int) < (b.length : Int)) = true from hd, show inR (12 : Int) b.length = true from hr]; rfl), by rw [nus_12 _ l0 l1 l2 l3 l4]; exact hs⟩
  · exact ⟨_, (num_13 N b _ t a0 a1 a2 a3 a4).trans (by rw [show decide ((13 : Int) < (b.length : Int)) = true from hd, show inR (13 : Int) b.length = true from hr]; rfl), by rw [nus_13 _ l0 l1 l2 l3 l4]; exact hs⟩
  · exact ⟨_, (num_14 N b _ t a0 a1 a2 a3 a4).trans (by rw [show decide ((14 : Int) < (b.length : Int)) = true from hd, show inR (14 : Int) b.length = true from hr]; rfl), by rw [nus_14 _ l0 l1 l2 l3 l4]; exact hs⟩
  · exact ⟨_, (num_15 N b _ t a0 a1 a2 a3 a4).trans (by rw [show decide ((15 : Int) < (b.length : Int)) = true from hd, show inR (15 : Int) b.length = true from hr]; rfl), by rw [nus_15 _ l0 l1 l2 l3 l4]; exact hs⟩
  · exact ⟨_, (num_16 N b _ t a0 a1 a2 a3 a4).trans (by rw [show decide ((16 : Int) < (b.length : Int)) = true from hd, show inR (16 : Int) b.length = true from hr]; rfl), by rw [nus_16 _ l0 l1 l2 l3 l4]; exact hs⟩
/-- The number of at most 17 bytes. -/
theorem number_ok (N : Nat) {b : List UInt8} (hb : b.length ≤ 17) (h16 : 16 < b.length → (b.getD 16 0).toNat ≤ 3) (hN : 4611686018427387904 ≤ N) :
    ∃ l, poly1305_number N b = some ((l, ()), ()) ∧ Le 67108863 (us l) ∧ v5 (us l) = le (ns b) := by
  unfold poly1305_number poly1305_number_1
  have := loopK_of (N := N) (step := fun y => poly1305_number_s2 N y.1.1 y.1.2.1 y.1.2.2.1 y.2.1 y.2.2.1) (J := fun (e : ((Unit) × ((List UInt64) × (List UInt64) × Unit))) => poly1305_number_3 N e.2.1 e.2.2.1)
    (I := fun y => ∃ i : Nat, y = ((b, (b.length : Int), (i : Int), ()), (List.replicate 5 0, y.2.2.1, ())) ∧ i ≤ b.length ∧ NInv (ns b) (us y.2.2.1) i) (μ := fun y => ((b.length : Int) - y.1.2.2.1).toNat)
    (T := fun r => ∃ l, r = ((l, ()), ()) ∧ Le 67108863 (us l) ∧ v5 (us l) = le (ns b)) ?_
    (x := ((b, (b.length : Int), 0, ()), (List.replicate 5 0, List.replicate 5 0, ()))) ⟨0, rfl, by omega, NInv.start _⟩ (by simp; omega)
  · obtain ⟨r, h1, l, rfl, h2, h3⟩ := this
    exact ⟨l, h1, h2, h3⟩
  · rintro ⟨⟨b', n, j, _⟩, ⟨t, l, _⟩⟩ ⟨i, h1, h2, h3⟩
    simp only [Prod.mk.injEq] at h1
    obtain ⟨⟨rfl, rfl, rfl, _⟩, rfl, _⟩ := h1
    simp only at h3 ⊢
    by_cases hi : i < b'.length
    · obtain ⟨l', e, h4⟩ := num_step N (List.replicate 5 0) h3 (by omega) hi (fun e => by subst e; exact h16 hi)
      exact ⟨_, e, ⟨i + 1, rfl, by omega, h4⟩, by simp only; omega⟩
    · have e : i = b'.length := by omega
      subst e
      refine ⟨.br ((), (List.replicate 5 0, l, ())), ?_, _, rfl, l, rfl, ⟨h3.len, fun j hj => by have := low_of h3 hj; omega⟩, ?_⟩
      · unfold poly1305_number_s2
        simp (disch := omega) only [dneg, cond_false]
      · rw [h3.val, List.take_of_length_le (by simp [ns])]
end Go.Proofs.YtofajgidjkjnpaaDoor.Pl

/- Plain: the limbs of Poly1305: carry, sum, product, the number below the modulus. -/
namespace Go.Proofs.YtofajgidjkjnpaaDoor.Pl
open Go Poly
/-- A round of carry. -/
def cr : List UInt64 → List UInt64
  | [a, b, c, d, e] =>
    [((a + 0) &&& 67108863) + 5 * shr64 (e + shr64 (d + shr64 (c + shr64 (b + shr64 (a + 0) 26) 26) 26) 26) 26, (b + shr64 (a + 0) 26) &&& 67108863, (c + shr64 (b + shr64 (a + 0) 26) 26) &&& 67108863,
      (d + shr64 (c + shr64 (b + shr64 (a + 0) 26) 26) 26) &&& 67108863, (e + shr64 (d + shr64 (c + shr64 (b + shr64 (a + 0) 26) 26) 26) 26) &&& 67108863]
  | l => l
theorem carry_un (M : Nat) (a b c d e : UInt64) : poly1305_limbs_carry (M + 20) [a, b, c, d, e] = some ((cr (cr [a, b, c, d, e]), ()), ()) := by kernel_rfl
theorem add_un (M : Nat) (a b c d e a' b' c' d' e' : UInt64) : poly1305_limbs_add (M + 20) [a, b, c, d, e] [a', b', c', d', e'] = some ((cr (cr [a + a', b + b', c + c', d + d', e + e']), ()), ()) := by kernel_rfl
theorem mul_un (M : Nat) (a0 a1 a2 a3 a4 b0 b1 b2 b3 b4 : UInt64) : poly1305_limbs_mul (M + 20) [a0, a1, a2, a3, a4] [b0, b1, b2, b3, b4] =
    some ((cr (cr [0 + a0 * b0 + a1 * b4 * 5 + a2 * b3 * 5 + a3 * b2 * 5 + a4 * b1 * 5, 0 + a0 * b1 + a1 * b0 + a2 * b4 * 5 + a3 * b3 * 5 + a4 * b2 * 5, 0 + a0 * b2 + a1 * b1 + a2 * b0 + a3 * b4 * 5 + a4 * b3 * 5,
      0 + a0 * b3 + a1 * b2 + a2 * b1 + a3 * b0 + a4 * b4 * 5, 0 + a0 * b4 + a1 * b3 + a2 * b2 + a3 * b1 + a4 * b0]), ()), ()) := by kernel_rfl
/-- A carry that stops at the last limb. -/
def cq : List UInt64 → List UInt64
  | [a, b, c, d, e] => [a &&& 67108863, (b + shr64 a 26) &&& 67108863, (c + shr64 (b + shr64 a 26) 26) &&& 67108863, (d + shr64 (c + shr64 (b + shr64 a 26) 26) 26) &&& 67108863, e + shr64 (d + shr64 (c + shr64 (b + shr64 a 26) 26) 26) 26]
  | l => l
theorem red_un (M : Nat) (a b c d e : UInt64) (l t : List UInt64) : poly1305_limbs_reduced_1 (M + 20) 0 l t [a, b, c, d, e] = bif decide (shr64 ((cq [a, b, c, d, e]).getD 4 0) 26 = 0) then some ((l, ()), ()) else some (((cq [a, b, c, d, e]).set 4 ((cq [a, b, c, d, e]).getD 4 0 &&& 67108863), ()), ()) := by kernel_rfl

theorem shr26 (x : UInt64) : (shr64 x 26).toNat = x.toNat / 67108864 := by
  show (x.toBitVec >>> 26).toNat = _
  rw [BitVec.toNat_ushiftRight, Nat.shiftRight_eq_div_pow]; rfl
theorem and26 (x : UInt64) : (x &&& 67108863).toNat = x.toNat % 67108864 := by
  rw [UInt64.toNat_and]; exact Nat.and_two_pow_sub_one_eq_mod _ 26
theorem addN {x y : UInt64} (h : x.toNat + y.toNat < 18446744073709551616) : (x + y).toNat = x.toNat + y.toNat := by
  rw [UInt64.toNat_add]; exact Nat.mod_eq_of_lt h
theorem mulN {x y : UInt64} (h : x.toNat * y.toNat < 18446744073709551616) : (x * y).toNat = x.toNat * y.toNat := by
  rw [UInt64.toNat_mul]; exact Nat.mod_eq_of_lt h
theorem cr_us {l : List UInt64} (h : Le 4611686018427387904 (us l)) : us (cr l) = rnd (us l) := by
  have h0 := h.2 0 (by omega); have h1 := h.2 1 (by omega); have h2 := h.2 2 (by omega); have h3 := h.2 3 (by omega); have h4 := h.2 4 (by omega)
  obtain ⟨a, b, c, d, e, rfl⟩ := list5u (by simpa [us] using h.1)
  simp only [us, List.map_cons, List.map_nil, List.getD_cons_zero, List.getD_cons_succ] at h0 h1 h2 h3 h4
  have e0 : (a + 0).toNat = a.toNat + 0 := addN (by show a.toNat + 0 < _; omega)
  have e1 : (b + shr64 (a + 0) 26).toNat = b.toNat + (a.toNat + 0) / 67108864 := by rw [addN (by rw [shr26, e0]; omega), shr26, e0]
  have e2 : (c + shr64 (b + shr64 (a + 0) 26) 26).toNat = c.toNat + (b.toNat + (a.toNat + 0) / 67108864) / 67108864 := by rw [addN (by rw [shr26, e1]; omega), shr26, e1]
  have e3 : (d + shr64 (c + shr64 (b + shr64 (a + 0) 26) 26) 26).toNat = d.toNat + (c.toNat + (b.toNat + (a.toNat + 0) / 67108864) / 67108864) / 67108864 := by rw [addN (by rw [shr26, e2]; omega), shr26, e2]
  have e4 : (e + shr64 (d + shr64 (c + shr64 (b + shr64 (a + 0) 26) 26) 26) 26).toNat = e.toNat + (d.toNat + (c.toNat + (b.toNat + (a.toNat + 0) / 67108864) / 67108864) / 67108864) / 67108864 := by rw [addN (by rw [shr26, e3]; omega), shr26, e3]
  refine Eq.trans ?_ (rnd_five _ _ _ _ _).symm
  refine congr5 ?_ ?_ ?_ ?_ ?_
  · have e5 : (5 * shr64 (e + shr64 (d + shr64 (c + shr64 (b + shr64 (a + 0) 26) 26) 26) 26) 26).toNat = 5 * ((e.toNat + (d.toNat + (c.toNat + (b.toNat + (a.toNat + 0) / 67108864) / 67108864) / 67108864) / 67108864) / 67108864) := by
      have q : (5 : UInt64).toNat = 5 := rfl
      rw [mulN (by rw [q, shr26, e4]; omega), q, shr26, e4]
    rw [addN (by rw [and26, e5, e0]; omega), and26, e5, e0]
  · rw [and26, e1]
  · rw [and26, e2]
  · rw [and26, e3]
  · rw [and26, e4]
theorem rp_inv {r : Nat} {l : List Nat} (hb : Poly.Bd r l) : ∀ j, j ≤ 5 → CInv r l (rp j l).1 j (rp j l).2 := by
  intro j
  induction j with
  | zero => intro _; exact CInv.start hb
  | succ j ih => intro hj; exact (CInv.step hb (ih (by omega)) (by omega)).1
theorem rnd_bd {r : Nat} {l : List Nat} (hb : Poly.Bd r l) (hr : r < 2) : Poly.Bd (r + 1) (rnd l) ∧ v5 (rnd l) % pp = v5 l % pp := by
  have h := (rp_inv hb 5 (Nat.le_refl 5)).done hr
  exact ⟨h.1, h.2.1⟩
theorem bd_le {r : Nat} {l : List Nat} (h : Poly.Bd r l) : Le 4611686018427387904 l := ⟨h.len, h.all⟩
/-- Two rounds. -/
theorem cr2 {l : List UInt64} (h : Le 4611686018427387904 (us l)) : Poly.Bd 2 (us (cr (cr l))) ∧ v5 (us (cr (cr l))) % pp = v5 (us l) % pp := by
  have h1 := rnd_bd h.bd (by omega)
  rw [← cr_us h] at h1
  have h2 := rnd_bd h1.1 (by omega)
  rw [← cr_us (bd_le h1.1)] at h2
  exact ⟨h2.1, h2.2.trans h1.2⟩
def mst (a b l : List Nat) (i k : Nat) : List Nat := l.set ((i + k) % 5) (l.getD ((i + k) % 5) 0 + mterm a b i k)
/-- What one limb of the first factor adds. -/
def mrow (a b l : List Nat) (i : Nat) : List Nat := mst a b (mst a b (mst a b (mst a b (mst a b l i 0) i 1) i 2) i 3) i 4
theorem prod_bd {x y : UInt64} (hx : x.toNat ≤ 67108868) (hy : y.toNat ≤ 67108868) : (x * y).toNat = x.toNat * y.toNat ∧ x.toNat * y.toNat ≤ 4503600164241424 := by
  have := Nat.mul_le_mul hx hy
  exact ⟨mulN (by omega), by omega⟩
theorem prod5 {x y : UInt64} (hx : x.toNat ≤ 67108868) (hy : y.toNat ≤ 67108868) : (x * y * 5).toNat = x.toNat * y.toNat * 5 := by
  have h := prod_bd hx hy
  have q : (5 : UInt64).toNat = 5 := rfl
  rw [mulN (by rw [h.1, q]; omega), h.1, q]
theorem mrow_ok {a b l : List Nat} {i : Nat} (ha : Le 67108868 a) (hb : Le 67108868 b) (h : MInv a b l i 0) (hi : i < 5) : MInv a b (mrow a b l i) (i + 1) 0 :=
  ((h.step ha hb hi (by omega)).1.step ha hb hi (by omega)).1 |>.step ha hb hi (by omega) |>.1.step ha hb hi (by omega) |>.1.step ha hb hi (by omega) |>.1.next
section
variable (N : Nat) (hN : 4611686018427387904 ≤ N)
include hN
theorem carry_ok {l : List UInt64} (h : Le 4611686018427387904 (us l)) : ∃ l', poly1305_limbs_carry N l = some ((l', ()), ()) ∧ Poly.Bd 2 (us l') ∧ v5 (us l') % pp = v5 (us l) % pp ∧ us l' = rnd (rnd (us l)) := by
  obtain ⟨M, rfl⟩ := Nat.exists_eq_add_of_le' (show 20 ≤ N by omega)
  obtain ⟨a, b, c, d, e, rfl⟩ := list5u (by simpa [us] using h.1)
  have h1 := rnd_bd h.bd (by omega)
  refine ⟨_, carry_un M a b c d e, (cr2 h).1, (cr2 h).2, ?_⟩
  rw [cr_us (l := cr [a, b, c, d, e]) (by rw [cr_us h]; exact bd_le h1.1), cr_us h]
theorem add_ok {l m : List UInt64} (hl : Le 67108868 (us l)) (hm : Le 67108863 (us m)) : ∃ l', poly1305_limbs_add N l m = some ((l', ()), ()) ∧ Le 67108868 (us l') ∧ v5 (us l') % pp = (v5 (us l) + v5 (us m)) % pp := by
  obtain ⟨M, rfl⟩ := Nat.exists_eq_add_of_le' (show 20 ≤ N by omega)
  have h0 := hl.2 0 (by omega); have h1 := hl.2 1 (by omega); have h2 := hl.2 2 (by omega); have h3 := hl.2 3 (by omega); have h4 := hl.2 4 (by omega)
  have k0 := hm.2 0 (by omega); have k1 := hm.2 1 (by omega); have k2 := hm.2 2 (by omega); have k3 := hm.2 3 (by omega); have k4 := hm.2 4 (by omega)
  obtain ⟨a, b, c, d, f, rfl⟩ := list5u (by simpa [us] using hl.1)
  obtain ⟨a', b', c', d', e', rfl⟩ := list5u (by simpa [us] using hm.1)
  simp only [us, List.map_cons, List.map_nil, List.getD_cons_zero, List.getD_cons_succ] at h0 h1 h2 h3 h4 k0 k1 k2 k3 k4
  have e : us [a + a', b + b', c + c', d + d', f + e'] = [a.toNat + a'.toNat, b.toNat + b'.toNat, c.toNat + c'.toNat, d.toNat + d'.toNat, f.toNat + e'.toNat] :=
    congr5 (addN (by omega)) (addN (by omega)) (addN (by omega)) (addN (by omega)) (addN (by omega))
  have hle : Le 4611686018427387904 (us [a + a', b + b', c + c', d + d', f + e']) := by rw [e]; apply le5 <;> omega
  have h := cr2 hle
  refine ⟨_, add_un M a b c d f a' b' c' d' e', h.1.le, h.2.trans ?_⟩
  rw [e]
  simp only [us, List.map_cons, List.map_nil, v5, List.getD_cons_zero, List.getD_cons_succ]
  congr 1
  omega
theorem mul_ok {l m : List UInt64} (hl : Le 67108868 (us l)) (hm : Le 67108868 (us m)) : ∃ l', poly1305_limbs_mul N l m = some ((l', ()), ()) ∧ Le 67108868 (us l') ∧ v5 (us l') % pp = v5 (us l) * v5 (us m) % pp := by
  obtain ⟨M, rfl⟩ := Nat.exists_eq_add_of_le' (show 20 ≤ N by omega)
  have h0 := hl.2 0 (by omega); have h1 := hl.2 1 (by omega); have h2 := hl.2 2 (by omega); have h3 := hl.2 3 (by omega); have h4 := hl.2 4 (by omega)
  have k0 := hm.2 0 (by omega); have k1 := hm.2 1 (by omega); have k2 := hm.2 2 (by omega); have k3 := hm.2 3 (by omega); have k4 := hm.2 4 (by omega)
  obtain ⟨a0, a1, a2, a3, a4, rfl⟩ := list5u (by simpa [us] using hl.1)
  obtain ⟨b0, b1, b2, b3, b4, rfl⟩ := list5u (by simpa [us] using hm.1)
  simp only [us, List.map_cons, List.map_nil, List.getD_cons_zero, List.getD_cons_succ] at h0 h1 h2 h3 h4 k0 k1 k2 k3 k4
  have z0 : (0 : UInt64).toNat = 0 := rfl
  have p00 := prod_bd h0 k0
  have p01 := prod_bd h0 k1
  have p02 := prod_bd h0 k2
  have p03 := prod_bd h0 k3
  have p04 := prod_bd h0 k4
  have p10 := prod_bd h1 k0
  have p11 := prod_bd h1 k1
  have p12 := prod_bd h1 k2
  have p13 := prod_bd h1 k3
  have p14 := prod_bd h1 k4
  have q14 := prod5 h1 k4
  have p20 := prod_bd h2 k0
  have p21 := prod_bd h2 k1
  have p22 := prod_bd h2 k2
  have p23 := prod_bd h2 k3
  have q23 := prod5 h2 k3
  have p24 := prod_bd h2 k4
  have q24 := prod5 h2 k4
  have p30 := prod_bd h3 k0
  have p31 := prod_bd h3 k1
  have p32 := prod_bd h3 k2
  have q32 := prod5 h3 k2
  have p33 := prod_bd h3 k3
  have q33 := prod5 h3 k3
  have p34 := prod_bd h3 k4
  have q34 := prod5 h3 k4
  have p40 := prod_bd h4 k0
  have p41 := prod_bd h4 k1
  have q41 := prod5 h4 k1
  have p42 := prod_bd h4 k2
  have q42 := prod5 h4 k2
  have p43 := prod_bd h4 k3
  have q43 := prod5 h4 k3
  have p44 := prod_bd h4 k4
  have q44 := prod5 h4 k4
  have s00 : (0 + a0 * b0 : UInt64).toNat = 0 + a0.toNat * b0.toNat := by rw [addN (by rw [z0, p00.1]; omega), z0, p00.1]
  have s01 : (0 + a0 * b0 + a1 * b4 * 5 : UInt64).toNat = 0 + a0.toNat * b0.toNat + a1.toNat * b4.toNat * 5 := by rw [addN (by rw [s00, q14]; omega), s00, q14]
  have s02 : (0 + a0 * b0 + a1 * b4 * 5 + a2 * b3 * 5 : UInt64).toNat = 0 + a0.toNat * b0.toNat + a1.toNat * b4.toNat * 5 + a2.toNat * b3.toNat * 5 := by rw [addN (by rw [s01, q23]; omega), s01, q23]
  have s03 : (0 + a0 * b0 + a1 * b4 * 5 + a2 * b3 * 5 + a3 * b2 * 5 : UInt64).toNat = 0 + a0.toNat * b0.toNat + a1.toNat * b4.toNat * 5 + a2.toNat * b3.toNat * 5 + a3.toNat * b2.toNat * 5 := by rw [addN (by rw [s02, q32]; omega), s02, q32]
  have s04 : (0 + a0 * b0 + a1 * b4 * 5 + a2 * b3 * 5 + a3 * b2 * 5 + a4 * b1 * 5 : UInt64).toNat = 0 + a0.toNat * b0.toNat + a1.toNat * b4.toNat * 5 + a2.toNat * b3.toNat * 5 + a3.toNat * b2.toNat * 5 + a4.toNat * b1.toNat * 5 := by rw [addN (by rw [s03, q41]; omega), s03, q41]
  have s10 : (0 + a0 * b1 : UInt64).toNat = 0 + a0.toNat * b1.toNat := by rw [addN (by rw [z0, p01.1]; omega), z0, p01.1]
  have s11 : (0 + a0 * b1 + a1 * b0 : UInt64).toNat = 0 + a0.toNat * b1.toNat + a1.toNat * b0.toNat := by rw [addN (by rw [s10, p10.1]; omega), s10, p10.1]
  have s12 : (0 + a0 * b1 + a1 * b0 + a2 * b4 * 5 : UInt64).toNat = 0 + a0.toNat * b1.toNat + a1.toNat * b0.toNat + a2.toNat * b4.toNat * 5 := by rw [addN (by rw [s11, q24]; omega), s11, q24]
  have s13 : (0 + a0 * b1 + a1 * b0 + a2 * b4 * 5 + a3 * b3 * 5 : UInt64).toNat = 0 + a0.toNat * b1.toNat + a1.toNat * b0.toNat + a2.toNat * b4.toNat * 5 + a3.toNat * b3.toNat * 5 := by rw [addN (by rw [s12, q33]; omega), s12, q33]
  have s14 : (0 + a0 * b1 + a1 * b0 + a2 * b4 * 5 + a3 * b3 * 5 + a4 * b2 * 5 : UInt64).toNat = 0 + a0.toNat * b1.toNat + a1.toNat * b0.toNat + a2.toNat * b4.toNat * 5 + a3.toNat * b3.toNat * 5 + a4.toNat * b2.toNat * 5 := by rw [addN (by rw [s13, q42]; omega), s13, q42]
  have s20 : (0 + a0 * b2 : UInt64).toNat = 0 + a0.toNat * b2.toNat := by rw [addN (by rw [z0, p02.1]; omega), z0, p02.1]
  have s21 : (0 + a0 * b2 + a1 * b1 : UInt64).toNat = 0 + a0.toNat * b2.toNat + a1.toNat * b1.toNat := by rw [addN (by rw [s20, p11.1]; omega), s20, p11.1]
  have s22 : (0 + a0 * b2 + a1 * b1 + a2 * b0 : UInt64).toNat = 0 + a0.toNat * b2.toNat + a1.toNat * b1.toNat + a2.toNat * b0.toNat := by rw [addN (by rw [s21, p20.1]; omega), s21, p20.1]
  have s23 : (0 + a0 * b2 + a1 * b1 + a2 * b0 + a3 * b4 * 5 : UInt64).toNat = 0 + a0.toNat * b2.toNat + a1.toNat * b1.toNat + a2.toNat * b0.toNat + a3.toNat * b4.toNat * 5 := by rw [addN (by rw [s22, q34]; omega), s22, q34]
  have s24 : (0 + a0 * b2 + a1 * b1 + a2 * b0 + a3 * b4 * 5 + a4 * b3 * 5 : UInt64).toNat = 0 + a0.toNat * b2.toNat + a1.toNat * b1.toNat + a2.toNat * b0.toNat + a3.toNat * b4.toNat * 5 + a4.toNat * b3.toNat * 5 := by rw [addN (by rw [s23, q43]; omega), s23, q43]
  have s30 : (0 + a0 * b3 : UInt64).toNat = 0 + a0.toNat * b3.toNat := by rw [addN (by rw [z0, p03.1]; omega), z0, p03.1]
  have s31 : (0 + a0 * b3 + a1 * b2 : UInt64).toNat = 0 + a0.toNat * b3.toNat + a1.toNat * b2.toNat := by rw [addN (by rw [s30, p12.1]; omega), s30, p12.1]
  have s32 : (0 + a0 * b3 + a1 * b2 + a2 * b1 : UInt64).toNat = 0 + a0.toNat * b3.toNat + a1.toNat * b2.toNat + a2.toNat * b1.toNat := by rw [addN (by rw [s31, p21.1]; omega), s31, p21.1]
  have s33 : (0 + a0 * b3 + a1 * b2 + a2 * b1 + a3 * b0 : UInt64).toNat = 0 + a0.toNat * b3.toNat + a1.toNat * b2.toNat + a2.toNat * b1.toNat + a3.toNat * b0.toNat := by rw [addN (by rw [s32, p30.1]; omega), s32, p30.1]
  have s34 : (0 + a0 * b3 + a1 * b2 + a2 * b1 + a3 * b0 + a4 * b4 * 5 : UInt64).toNat = 0 + a0.toNat * b3.toNat + a1.toNat * b2.toNat + a2.toNat * b1.toNat + a3.toNat * b0.toNat + a4.toNat * b4.toNat * 5 := by rw [addN (by rw [s33, q44]; omega), s33, q44]
  have s40 : (0 + a0 * b4 : UInt64).toNat = 0 + a0.toNat * b4.toNat := by rw [addN (by rw [z0, p04.1]; omega), z0, p04.1]
  have s41 : (0 + a0 * b4 + a1 * b3 : UInt64).toNat = 0 + a0.toNat * b4.toNat + a1.toNat * b3.toNat := by rw [addN (by rw [s40, p13.1]; omega), s40, p13.1]
  have s42 : (0 + a0 * b4 + a1 * b3 + a2 * b2 : UInt64).toNat = 0 + a0.toNat * b4.toNat + a1.toNat * b3.toNat + a2.toNat * b2.toNat := by rw [addN (by rw [s41, p22.1]; omega), s41, p22.1]
  have s43 : (0 + a0 * b4 + a1 * b3 + a2 * b2 + a3 * b1 : UInt64).toNat = 0 + a0.toNat * b4.toNat + a1.toNat * b3.toNat + a2.toNat * b2.toNat + a3.toNat * b1.toNat := by rw [addN (by rw [s42, p31.1]; omega), s42, p31.1]
  have s44 : (0 + a0 * b4 + a1 * b3 + a2 * b2 + a3 * b1 + a4 * b0 : UInt64).toNat = 0 + a0.toNat * b4.toNat + a1.toNat * b3.toNat + a2.toNat * b2.toNat + a3.toNat * b1.toNat + a4.toNat * b0.toNat := by rw [addN (by rw [s43, p40.1]; omega), s43, p40.1]
  have eo : us [0 + a0 * b0 + a1 * b4 * 5 + a2 * b3 * 5 + a3 * b2 * 5 + a4 * b1 * 5, 0 + a0 * b1 + a1 * b0 + a2 * b4 * 5 + a3 * b3 * 5 + a4 * b2 * 5, 0 + a0 * b2 + a1 * b1 + a2 * b0 + a3 * b4 * 5 + a4 * b3 * 5, 0 + a0 * b3 + a1 * b2 + a2 * b1 + a3 * b0 + a4 * b4 * 5, 0 + a0 * b4 + a1 * b3 + a2 * b2 + a3 * b1 + a4 * b0] = [0 + a0.toNat * b0.toNat + a1.toNat * b4.toNat * 5 + a2.toNat * b3.toNat * 5 + a3.toNat * b2.toNat * 5 + a4.toNat * b1.toNat * 5, 0 + a0.toNat * b1.toNat + a1.toNat * b0.toNat + a2.toNat * b4.toNat * 5 + a3.toNat * b3.toNat * 5 + a4.toNat * b2.toNat * 5, 0 + a0.toNat * b2.toNat + a1.toNat * b1.toNat + a2.toNat * b0.toNat + a3.toNat * b4.toNat * 5 + a4.toNat * b3.toNat * 5, 0 + a0.toNat * b3.toNat + a1.toNat * b2.toNat + a2.toNat * b1.toNat + a3.toNat * b0.toNat + a4.toNat * b4.toNat * 5, 0 + a0.toNat * b4.toNat + a1.toNat * b3.toNat + a2.toNat * b2.toNat + a3.toNat * b1.toNat + a4.toNat * b0.toNat] := congr5 s04 s14 s24 s34 s44
  have hm5 := mrow_ok hl hm (mrow_ok hl hm (mrow_ok hl hm (mrow_ok hl hm (mrow_ok hl hm (MInv.start _ _) (by omega)) (by omega)) (by omega)) (by omega)) (by omega)
  have hd := hm5.done
  have em : us [0 + a0 * b0 + a1 * b4 * 5 + a2 * b3 * 5 + a3 * b2 * 5 + a4 * b1 * 5, 0 + a0 * b1 + a1 * b0 + a2 * b4 * 5 + a3 * b3 * 5 + a4 * b2 * 5, 0 + a0 * b2 + a1 * b1 + a2 * b0 + a3 * b4 * 5 + a4 * b3 * 5, 0 + a0 * b3 + a1 * b2 + a2 * b1 + a3 * b0 + a4 * b4 * 5, 0 + a0 * b4 + a1 * b3 + a2 * b2 + a3 * b1 + a4 * b0] = mrow (us [a0, a1, a2, a3, a4]) (us [b0, b1, b2, b3, b4]) (mrow (us [a0, a1, a2, a3, a4]) (us [b0, b1, b2, b3, b4]) (mrow (us [a0, a1, a2, a3, a4]) (us [b0, b1, b2, b3, b4]) (mrow (us [a0, a1, a2, a3, a4]) (us [b0, b1, b2, b3, b4]) (mrow (us [a0, a1, a2, a3, a4]) (us [b0, b1, b2, b3, b4]) [0, 0, 0, 0, 0] 0) 1) 2) 3) 4 := by
    rw [eo]
    simp [mrow, mst, mterm, us]
  rw [← em] at hd
  have h := cr2 hd.1
  exact ⟨_, mul_un M a0 a1 a2 a3 a4 b0 b1 b2 b3 b4, h.1.le, h.2.trans hd.2⟩
end
end Go.Proofs.YtofajgidjkjnpaaDoor.Pl

/- Plain: the tag of Poly1305 (poly1305.Sum) as a number. -/
namespace Go.Proofs.YtofajgidjkjnpaaDoor.Pl
open Go Poly
noncomputable section
theorem cq_us {l : List UInt64} (h : Le 1073741824 (us l)) : us (cq l) = rq 4 (us l) := by
  have h0 := h.2 0 (by omega); have h1 := h.2 1 (by omega); have h2 := h.2 2 (by omega); have h3 := h.2 3 (by omega); have h4 := h.2 4 (by omega)
  obtain ⟨a, b, c, d, e, rfl⟩ := list5u (by simpa [us] using h.1)
  simp only [us, List.map_cons, List.map_nil, List.getD_cons_zero, List.getD_cons_succ] at h0 h1 h2 h3 h4
  have e1 : (b + shr64 a 26).toNat = b.toNat + a.toNat / 67108864 := by rw [addN (by rw [shr26]; omega), shr26]
  have e2 : (c + shr64 (b + shr64 a 26) 26).toNat = c.toNat + (b.toNat + a.toNat / 67108864) / 67108864 := by rw [addN (by rw [shr26, e1]; omega), shr26, e1]
  have e3 : (d + shr64 (c + shr64 (b + shr64 a 26) 26) 26).toNat = d.toNat + (c.toNat + (b.toNat + a.toNat / 67108864) / 67108864) / 67108864 := by rw [addN (by rw [shr26, e2]; omega), shr26, e2]
  have e4 : (e + shr64 (d + shr64 (c + shr64 (b + shr64 a 26) 26) 26) 26).toNat = e.toNat + (d.toNat + (c.toNat + (b.toNat + a.toNat / 67108864) / 67108864) / 67108864) / 67108864 := by rw [addN (by rw [shr26, e3]; omega), shr26, e3]
  exact (congr5 (and26 _) (by rw [and26, e1]) (by rw [and26, e2]) (by rw [and26, e3]) e4).trans (rq_four _ _ _ _ _).symm
theorem reduced_ok (N : Nat) (hN : 4611686018427387904 ≤ N) {l : List UInt64} (h : Le 67108868 (us l)) : ∃ l', poly1305_limbs_reduced N l = some ((l', ()), ()) ∧ Le 67108863 (us l') ∧ v5 (us l') = v5 (us l) % pp := by
  obtain ⟨l1, e1, b1, v1, _⟩ := carry_ok N hN (h.mono (by decide))
  obtain ⟨l2, e2, b2, v2, u2⟩ := carry_ok N hN (bd_le b1)
  have hlow : Le 67108863 (us l2) := by rw [u2]; exact rnd2_low b1
  have hv : v5 (us l2) % pp = v5 (us l) % pp := v2.trans v1
  unfold poly1305_limbs_reduced
  simp only [e1, e2, Option.bind_some]
  have hl := hlow
  have h0 := hlow.2 0 (by omega); have h1 := hlow.2 1 (by omega); have h2 := hlow.2 2 (by omega); have h3 := hlow.2 3 (by omega); have h4 := hlow.2 4 (by omega)
  obtain ⟨a, b, c, d, e, rfl⟩ := list5u (by simpa [us] using hlow.1)
  simp only [us, List.map_cons, List.map_nil, List.getD_cons_zero, List.getD_cons_succ] at h0 h1 h2 h3 h4
  obtain ⟨M, rfl⟩ := Nat.exists_eq_add_of_le' (show 20 ≤ N by omega)
  have h5 : us [a + 5, b, c, d, e] = (us [a, b, c, d, e]).set 0 ((us [a, b, c, d, e]).getD 0 0 + 5) :=
    congr5 (addN (by show a.toNat + 5 < _; omega)) rfl rfl rfl rfl
  have h5l : Le 1073741824 (us [a + 5, b, c, d, e]) := by
    rw [h5]; show Le 1073741824 [a.toNat + 5, b.toNat, c.toNat, d.toNat, e.toNat]
    apply le5 <;> omega
  have hq := cq_us h5l
  rw [h5] at hq
  show ∃ l', poly1305_limbs_reduced_1 (M + 20) 0 [a, b, c, d, e] _ [a + 5, b, c, d, e] = _ ∧ _
  rw [red_un]
  obtain ⟨q0, q1, q2, q3, q4, hq5⟩ : ∃ q0 q1 q2 q3 q4, cq [a + 5, b, c, d, e] = [q0, q1, q2, q3, q4] := ⟨_, _, _, _, _, rfl⟩
  rw [hq5] at hq ⊢
  have hg : ((us [a, b, c, d, e]).set 0 ((us [a, b, c, d, e]).getD 0 0 + 5)) = ((us [a, b, c, d, e]).set 0 ((us [a, b, c, d, e]).getD 0 0 + 5)) := rfl
  have g4 : (rq 4 ((us [a, b, c, d, e]).set 0 ((us [a, b, c, d, e]).getD 0 0 + 5))).getD 4 0 = q4.toNat := by rw [← hq]; rfl
  have hz : shr64 q4 26 = 0 ↔ q4.toNat / 67108864 = 0 := by
    rw [← shr26]
    constructor
    · intro e; rw [e]; rfl
    · intro e; exact UInt64.toNat_inj.1 e
  simp only [List.getD_cons_zero, List.getD_cons_succ]
  by_cases hc : shr64 q4 26 = 0
  · rw [dpos hc]
    exact ⟨_, rfl, hl, by rw [← hv]; exact (red_no hl (by rw [g4]; exact hz.1 hc)).symm⟩
  · rw [dneg hc]
    have hy := red_yes hl (by rw [g4]; exact fun e => hc (hz.2 e))
    refine ⟨_, rfl, ?_⟩
    have e6 : us ([q0, q1, q2, q3, q4].set 4 (q4 &&& 67108863)) = (rq 4 ((us [a, b, c, d, e]).set 0 ((us [a, b, c, d, e]).getD 0 0 + 5))).set 4 ((rq 4 ((us [a, b, c, d, e]).set 0 ((us [a, b, c, d, e]).getD 0 0 + 5))).getD 4 0 % 67108864) := by
      rw [g4, ← hq]
      exact congr5 rfl rfl rfl rfl (and26 _)
    rw [e6]
    exact ⟨hy.1, by rw [← hv]; exact hy.2.symm⟩
theorem list16 {α : Type} {l : List α} (h : l.length = 16) : ∃ a b c d e f g i j k m n o p q r, l = [a, b, c, d, e, f, g, i, j, k, m, n, o, p, q, r] := by
  match l, h with
  | [a, b, c, d, e, f, g, i, j, k, m, n, o, p, q, r], _ => exact ⟨a, b, c, d, e, f, g, i, j, k, m, n, o, p, q, r, rfl⟩
/-- The first half of a key, some of its bits cleared. -/
def clm : List UInt8 → List UInt8
  | [a, b, c, d, e, f, g, i, j, k, m, n, o, p, q, r] => [a, b, c, d &&& 15, e &&& 252, f, g, i &&& 15, j &&& 252, k, m, n &&& 15, o &&& 252, p, q, r &&& 15]
  | l => l
theorem clamp_un (M : Nat) (a b c d e f g i j k m n o p q r : UInt8) : poly1305_clamp (M + 20) [a, b, c, d, e, f, g, i, j, k, m, n, o, p, q, r] = some ((), (clm [a, b, c, d, e, f, g, i, j, k, m, n, o, p, q, r], ())) := by kernel_rfl
theorem clm_len {l : List UInt8} (h : l.length = 16) : (clm l).length = 16 := by
  obtain ⟨a, b, c, d, e, f, g, i, j, k, m, n, o, p, q, r, rfl⟩ := list16 h; rfl
/-- The byte k that the program takes off the limbs. -/
def ob (l : List UInt64) (k : Nat) : UInt8 :=
  if 18 < 8 * k % 26 then (shr64 (l.getD (8 * k / 26) 0) (8 * k % 26) ||| shl64 (l.getD (8 * k / 26 + 1) 0) (26 - 8 * k % 26)).toUInt8 else (shr64 (l.getD (8 * k / 26) 0) (8 * k % 26)).toUInt8
theorem out_un (M : Nat) (a b c d e a' b' c' d' e' : UInt64) : poly1305_Sum_4 (M + 20) 0 [a, b, c, d, e] [a', b', c', d', e'] = some ((true, ()), ((List.range 16).map (ob (cq [a + a', b + b', c + c', d + d', e + e'])), ())) := by kernel_rfl
theorem ob_val {l : List UInt64} (hl : l.length = 5) (hlow : ∀ i, i < 4 → (us l).getD i 0 ≤ 67108863) (h4 : (us l).getD 4 0 ≤ 2147483648) {k : Nat} (hk : k < 16) : (ob l k).toNat = v5 (us l) / 256 ^ k % 256 := by
  rw [← outb_val (by simpa [us] using hl) hlow hk]
  have hg : ∀ j, (l.getD j 0).toNat = (us l).getD j 0 := fun j => by
    simp only [us, List.getD, List.getElem?_map]
    cases l[j]? <;> rfl
  have hs : ∀ (x : UInt64) (m : Nat), (shr64 x m).toNat = x.toNat / 2 ^ m := fun x m => by
    show (x.toBitVec >>> m).toNat = _
    rw [BitVec.toNat_ushiftRight, Nat.shiftRight_eq_div_pow]; rfl
  unfold ob outb
  split
  · rename_i h18
    have hj : 8 * k / 26 < 4 := by omega
    have hj' : 8 * k / 26 + 1 ≤ 4 := by omega
    have hx := hlow (8 * k / 26) hj
    have hy : (us l).getD (8 * k / 26 + 1) 0 ≤ 2147483648 := by
      rcases (by omega : 8 * k / 26 + 1 < 4 ∨ 8 * k / 26 + 1 = 4) with h | h
      · exact Nat.le_trans (hlow _ h) (by decide)
      · rw [h]; exact h4
    have h26 : 8 * k % 26 < 26 := Nat.mod_lt _ (by decide)
    generalize hm : 8 * k % 26 = m at *
    generalize 8 * k / 26 = j at *
    rw [UInt64.toNat_toUInt8, UInt64.toNat_or, hs, hg]
    have hsl : (shl64 (l.getD (j + 1) 0) (26 - m)).toNat = (us l).getD (j + 1) 0 <<< (26 - m) := by
      show ((l.getD (j + 1) 0).toBitVec <<< (26 - m)).toNat = _
      rw [BitVec.toNat_shiftLeft]
      have e : (l.getD (j + 1) 0).toBitVec.toNat = (us l).getD (j + 1) 0 := hg _
      rw [e, Nat.mod_eq_of_lt]
      rw [Nat.shiftLeft_eq]
      have : 2 ^ (26 - m) ≤ 2 ^ 8 := Nat.pow_le_pow_right (by decide) (by omega)
      have := Nat.mul_le_mul hy this
      omega
    have hlt : (us l).getD j 0 / 2 ^ m < 2 ^ (26 - m) := by
      rw [Nat.div_lt_iff_lt_mul (Nat.two_pow_pos m), ← Nat.pow_add, show 26 - m + m = 26 by omega]
      omega
    rw [hsl, Nat.or_comm, ← Nat.shiftLeft_add_eq_or_of_lt hlt, Nat.shiftLeft_eq, Nat.add_comm]
  · rw [UInt64.toNat_toUInt8, hs, hg, Nat.add_zero]
/-- The low 16 bytes of a number. -/
def tagB (v : Nat) : List UInt8 := (List.range 16).map fun k => UInt8.ofNat (v / 256 ^ k % 256)
theorem tagB_len (v : Nat) : (tagB v).length = 16 := by simp [tagB]
def kr (key : List UInt8) : Nat := le (ns (clm (key.take 16)))
def ks (key : List UInt8) : Nat := le (ns (key.drop 16))
/-- The tag. -/
def tag (key b : List UInt8) : List UInt8 := tagB (acc (kr key) 0 b + ks key)
theorem tag_len (key b : List UInt8) : (tag key b).length = 16 := tagB_len _
theorem sum_out (N : Nat) (hN : 4611686018427387904 ≤ N) {v s : List UInt64} (hv : Le 67108863 (us v)) (hs : Le 67108863 (us s)) : poly1305_Sum_4 N 0 v s = some ((true, ()), (tagB (v5 (us v) + v5 (us s)), ())) := by
  obtain ⟨M, rfl⟩ := Nat.exists_eq_add_of_le' (show 20 ≤ N by omega)
  have h0 := hv.2 0 (by omega); have h1 := hv.2 1 (by omega); have h2 := hv.2 2 (by omega); have h3 := hv.2 3 (by omega); have h4 := hv.2 4 (by omega)
  have k0 := hs.2 0 (by omega); have k1 := hs.2 1 (by omega); have k2 := hs.2 2 (by omega); have k3 := hs.2 3 (by omega); have k4 := hs.2 4 (by omega)
  obtain ⟨a, b, c, d, f, rfl⟩ := list5u (by simpa [us] using hv.1)
  obtain ⟨a', b', c', d', f', rfl⟩ := list5u (by simpa [us] using hs.1)
  simp only [us, List.map_cons, List.map_nil, List.getD_cons_zero, List.getD_cons_succ] at h0 h1 h2 h3 h4 k0 k1 k2 k3 k4
  have e : us [a + a', b + b', c + c', d + d', f + f'] = [a.toNat + a'.toNat, b.toNat + b'.toNat, c.toNat + c'.toNat, d.toNat + d'.toNat, f.toNat + f'.toNat] :=
    congr5 (addN (by omega)) (addN (by omega)) (addN (by omega)) (addN (by omega)) (addN (by omega))
  have hle : Le 1073741824 (us [a + a', b + b', c + c', d + d', f + f']) := by rw [e]; apply le5 <;> omega
  have hq := cq_us hle
  have hd := rq_done hle.1
  have hr4 := (rq_le hle (k := 4) (by omega)).2 4 (by omega)
  rw [← hq] at hd hr4
  rw [out_un]
  have hval : v5 (us (cq [a + a', b + b', c + c', d + d', f + f'])) = v5 (us [a, b, c, d, f]) + v5 (us [a', b', c', d', f']) := by
    rw [hd.1, e]
    simp only [us, List.map_cons, List.map_nil, v5, List.getD_cons_zero, List.getD_cons_succ]
    omega
  congr 3
  unfold tagB
  apply List.map_congr_left
  intro k hk
  rw [List.mem_range] at hk
  have := ob_val rfl hd.2 hr4 hk (l := cq [a + a', b + b', c + c', d + d', f + f'])
  rw [hval] at this
  rw [← this]
  exact (UInt8.ofNat_toNat).symm
theorem sum_ok (N : Nat) (hN : 4611686018427387904 ≤ N) {key b : List UInt8} (hk : key.length = 32) (hb : b.length ≤ 9223372036854775807) (hbN : b.length < N) : poly1305_Sum N key b = some ((true, ()), (tag key b, ())) := by
  unfold poly1305_Sum
  have hc : cut key 0 16 = key.take 16 := by simp [cut]
  have hc2 : cut key 16 key.length = key.drop 16 := by simp [cut]
  have ht : (key.take 16).length = 16 := by simp; omega
  have hcl : poly1305_clamp N (key.take 16) = some ((), (clm (key.take 16), ())) := by
    obtain ⟨a, b, c, d, e, f, g, i, j, k, m, n, o, p, q, r, e1⟩ := list16 ht
    obtain ⟨M, rfl⟩ := Nat.exists_eq_add_of_le' (show 20 ≤ N by omega)
    rw [e1]; exact clamp_un M a b c d e f g i j k m n o p q r
  have hcm := clm_len ht
  obtain ⟨r, er, rl, rv⟩ := number_ok N (b := clm (key.take 16)) (by omega) (by omega) hN
  obtain ⟨s, es, sl, sv⟩ := number_ok N (b := key.drop 16) (by simp; omega) (by simp; omega) hN
  simp (disch := omega) only [dpos, dneg, w64_of, inR_of, room_of, tmod_of, cond_true, cond_false, Bool.and_self, Bool.and_true, Bool.true_and, Bool.and_false, Bool.false_and, Bool.not_true, Bool.not_false, Option.bind_some, List.length_cons, List.length_nil, Nat.zero_add, hc, hcl, er]
  unfold poly1305_Sum_1
  have hz : acc (kr key) (v5 (us (List.replicate 5 0)) % pp) b = acc (kr key) 0 b := by
    have e : v5 (us (List.replicate 5 0)) = 0 := by decide
    rw [e, Nat.zero_mod]
  have := loopK_of (N := N) (step := fun y => poly1305_Sum_s2 N y.1.1 y.1.2.1 y.2.1 y.2.2.1) (J := fun (e : (((List UInt8) × Unit) × ((List UInt64) × Unit))) => poly1305_Sum_3 N e.1.1 e.2.1)
    (I := fun y => y.1.1 = key ∧ y.2.1 = r ∧ Le 67108868 (us y.2.2.1) ∧ y.1.2.1.length ≤ 9223372036854775807 ∧ acc (kr key) (v5 (us y.2.2.1) % pp) y.1.2.1 = acc (kr key) 0 b) (μ := fun y => y.1.2.1.length)
    (T := fun x => x = ((true, ()), (tag key b, ()))) ?_
    (x := ((key, b, ()), (r, List.replicate 5 0, ()))) ⟨rfl, rfl, ⟨rfl, fun i hi => by
      rcases (by omega : i = 0 ∨ i = 1 ∨ i = 2 ∨ i = 3 ∨ i = 4) with rfl | rfl | rfl | rfl | rfl <;> exact Nat.zero_le _⟩, hb, hz⟩ (by simp only; omega)
  · obtain ⟨x, h1, rfl⟩ := this
    exact h1
  · rintro ⟨⟨key', l, _⟩, ⟨r', v, _⟩⟩ ⟨h1, h2, h3, h4, h5⟩
    simp only at h1 h2 h3 h4 h5
    subst h1; subst h2
    show ∃ o, poly1305_Sum_s2 N key' l r' v = some o ∧ _
    unfold poly1305_Sum_s2
    by_cases hl : l = []
    · subst hl
      simp (disch := omega) only [dpos, dneg, w64_of, inR_of, room_of, tmod_of, cond_true, cond_false, Bool.and_self, Bool.and_true, Bool.true_and, Bool.and_false, Bool.false_and, Bool.not_true, Bool.not_false, Option.bind_some, List.length_cons, List.length_nil, Nat.zero_add]
      refine ⟨_, rfl, _, ?_, rfl⟩
      show poly1305_Sum_3 N key' v = _
      unfold poly1305_Sum_3
      obtain ⟨w, e1, w1, w2⟩ := reduced_ok N hN h3
      simp (disch := omega) only [dpos, dneg, w64_of, inR_of, room_of, tmod_of, cond_true, cond_false, Bool.and_self, Bool.and_true, Bool.true_and, Bool.and_false, Bool.false_and, Bool.not_true, Bool.not_false, Option.bind_some, List.length_cons, List.length_nil, Nat.zero_add, e1, hc2, es]
      rw [sum_out N hN w1 sl, w2, sv, acc_nil] at *
      rw [h5]
      rfl
    · have hp : 0 < l.length := List.length_pos_iff.2 hl
      have hx : (bif decide ((l.length : Int) < 16) then (l.length : Int) else 16) = ((min 16 l.length : Nat) : Int) := by
        by_cases h : (l.length : Int) < 16
        · rw [dpos h, cond_true]; omega
        · rw [dneg h, cond_false]; omega
      have hcut : cut l 0 (min 16 l.length) = l.take 16 := by
        unfold cut
        rw [List.drop_zero]
        by_cases h : l.length ≤ 16
        · rw [Nat.min_eq_right h, List.take_of_length_le h, List.take_of_length_le (Nat.le_refl _)]
        · rw [Nat.min_eq_left (by omega)]
      have hcut2 : cut l (min 16 l.length) l.length = l.drop 16 := by
        unfold cut
        rw [List.take_of_length_le (Nat.le_refl _)]
        by_cases h : l.length ≤ 16
        · rw [Nat.min_eq_right h, List.drop_of_length_le h, List.drop_of_length_le (Nat.le_refl _)]
        · rw [Nat.min_eq_left (by omega)]
      have htl : (l.take 16).length ≤ 16 := by simp; omega
      have hnl : (l.take 16 ++ [1]).length ≤ 17 := by simp; omega
      obtain ⟨p, ep, p1, p2⟩ := number_ok N (b := l.take 16 ++ [1]) hnl (fun h => by
        have : (l.take 16).length = 16 := by simp at h; simp; omega
        rw [List.getD, List.getElem?_append_right (by omega), this]
        decide) hN
      obtain ⟨v1, e1, a1, a2⟩ := add_ok N hN h3 p1
      obtain ⟨v2, e2, b1, b2⟩ := mul_ok N hN a1 (rl.mono (by decide))
      simp (disch := omega) only [dpos, dneg, w64_of, inR_of, room_of, tmod_of, cond_true, cond_false, Bool.and_self, Bool.and_true, Bool.true_and, Bool.and_false, Bool.false_and, Bool.not_true, Bool.not_false, Option.bind_some, List.length_cons, List.length_nil, Nat.zero_add, hx, Int.toNat_natCast, hcut, hcut2, ep, e1, e2]
      refine ⟨_, rfl, ⟨rfl, rfl, b1, by simp; omega, ?_⟩, by simp; omega⟩
      simp only
      rw [← h5, acc_step _ _ hl]
      congr 1
      have hn : ns (l.take 16 ++ [1]) = (l.take 16).map UInt8.toNat ++ [1] := by simp [ns]
      rw [b2, Nat.mul_mod, a2, p2, rv, hn, ← Nat.mul_mod, Nat.mul_mod (v5 (us v) % pp + _), Nat.mod_add_mod, ← Nat.mul_mod]
      rfl
end
end Go.Proofs.YtofajgidjkjnpaaDoor.Pl

/- Plain: the reference's Poly1305: digits, their carry and their product. -/
namespace Go.Proofs.YtofajgidjkjnpaaDoor.Pl
open Go Poly
noncomputable section
/-- A round of carry, a digit being carried in. -/
def rcg (u : UInt32) : List UInt32 → List UInt32 × UInt32
  | [] => ([], u)
  | [x] => ([(u + x) &&& 3], 5 * shr32 (u + x) 2)
  | x :: y :: l => (((u + x) &&& 255) :: (rcg (shr32 (u + x) 8) (y :: l)).1, (rcg (shr32 (u + x) 8) (y :: l)).2)
def rc (l : List UInt32) : List UInt32 := match rcg 0 l with
  | (x :: t, u) => (x + u) :: t
  | ([], _) => []
/-- A term of the product. -/
def tm (a b : List UInt32) (i j : Nat) : UInt32 := if j ≤ i then a.getD j 0 * b.getD ((i : Int) - (j : Int)).toNat 0 else 320 * a.getD j 0 * b.getD ((17 : Int) + (i : Int) - (j : Int)).toNat 0
def uu (a b : List UInt32) (i : Nat) : Nat → UInt32
  | 0 => 0
  | j + 1 => uu a b i j + tm a b i j
def ol (a b : List UInt32) : Nat → List UInt32
  | 0 => List.replicate 17 0
  | i + 1 => (ol a b i).set i (uu a b i 17)
end
end Go.Proofs.YtofajgidjkjnpaaDoor.Pl

/- Plain: what is carried when two numbers are added byte for byte. -/
namespace Go.Proofs.YtofajgidjkjnpaaDoor.Pl
open Go Poly
/-- What is carried into a byte. -/
def cc (A S : Nat) : Nat → Nat
  | 0 => 0
  | i + 1 => (A % 256 ^ (i + 1) + S % 256 ^ (i + 1)) / 256 ^ (i + 1)
end Go.Proofs.YtofajgidjkjnpaaDoor.Pl

/- Plain: sealing and opening, the program's and the reference's. -/
namespace Go.Proofs.YtofajgidjkjnpaaDoor.Pl
open Go Poly
noncomputable section
def keyed (k n : List UInt8) : Bool := decide (k.length = 32) && decide (n.length = 12)
theorem keyed_ok (N : Nat) (k n : List UInt8) : aead_keyed N k n = some ((keyed k n, ()), ()) := by
  unfold aead_keyed keyed
  by_cases h1 : k.length = 32
  · by_cases h2 : n.length = 12 <;> simp (disch := omega) only [dpos, dneg, w64_of, inR_of, room_of, tmod_of, cond_true, cond_false, Bool.and_self, Bool.and_true, Bool.true_and, Bool.and_false, Bool.false_and, Bool.not_true, Bool.not_false, Option.bind_some, List.length_cons, List.length_nil, Nat.zero_add]
  · simp (disch := omega) only [dpos, dneg, w64_of, inR_of, room_of, tmod_of, cond_true, cond_false, Bool.and_self, Bool.and_true, Bool.true_and, Bool.and_false, Bool.false_and, Bool.not_true, Bool.not_false, Option.bind_some, List.length_cons, List.length_nil, Nat.zero_add]
theorem keyed_iff {k n : List UInt8} : keyed k n = true ↔ k.length = 32 ∧ n.length = 12 := by simp [keyed]
/-- Zeros up to a multiple of 16. -/
def zs (n : Nat) : List UInt8 := List.replicate ((16 - n % 16) % 16) 0
theorem zs_len (n : Nat) : (zs n).length < 16 := by simp [zs]; omega
theorem padded_ok (N : Nat) {b l : List UInt8} (h : l.length + b.length ≤ 35184372088832) : aead_padded N b l = some ((), (l ++ b ++ zs b.length, ())) := by
  unfold aead_padded
  have e : ((16 - (b.length : Int) % 16) % 16).toNat = (16 - b.length % 16) % 16 := by omega
  simp (disch := omega) only [dpos, dneg, w64_of, inR_of, room_of, tmod_of, cond_true, cond_false, Bool.and_self, Bool.and_true, Bool.true_and, Bool.and_false, Bool.false_and, Bool.not_true, Bool.not_false, Option.bind_some, List.length_cons, List.length_nil, Nat.zero_add, e, List.length_replicate, List.length_append]
  rfl
/-- Eight bytes, the lowest one first. -/
def le8 (v : UInt64) : List UInt8 := (List.range 8).map fun (i : Nat) => (shr64 v (8 * (i : Int)).toNat).toUInt8
theorem le8_len (v : UInt64) : (le8 v).length = 8 := by simp [le8]
theorem le8_get (v : UInt64) {i : Nat} (h : i < 8) : (le8 v).getD i 0 = (shr64 v (8 * (i : Int)).toNat).toUInt8 := by simp [le8, List.getD, h]
theorem length_ok (N : Nat) (hN : 4611686018427387904 ≤ N) (n : Int) {l : List UInt8} (h : l.length ≤ 70368744177664) : aead_length N n l = some ((), (l ++ le8 (iu64 n), ())) := by
  unfold aead_length aead_length_1
  have hl := le8_len (iu64 n)
  have h8N : 8 < N := by omega
  have h0 : l ++ (le8 (iu64 n)).take 0 = l := by simp
  have := loopK_run (step := fun y => aead_length_s2 N y.1.1 y.1.2.1 y.2.1) (J := fun (e : ((Unit) × ((List UInt8) × Unit))) => aead_length_3 N e.2.1) (fun i : Nat => ((n, (i : Int), ()), (l ++ (le8 (iu64 n)).take i, ()))) (n := 8) ?_ (e := ((), (l ++ le8 (iu64 n), ()))) ?_ h8N
  · rw [h0] at this
    exact this
  · intro i hi
    have hti : ((le8 (iu64 n)).take i).length = i := by simp; omega
    show aead_length_s2 N n _ _ = _
    unfold aead_length_s2
    simp (disch := omega) only [dpos, dneg, w64_of, inR_of, room_of, tmod_of, cond_true, cond_false, Bool.and_self, Bool.and_true, Bool.true_and, Bool.and_false, Bool.false_and, Bool.not_true, Bool.not_false, Option.bind_some, List.length_cons, List.length_nil, Nat.zero_add, List.length_append, hti, Int.natCast_add, Int.natCast_one]
    rw [take_snoc _ 0 (by omega), le8_get _ hi, List.append_assoc]
  · show aead_length_s2 N n _ _ = _
    unfold aead_length_s2
    simp (disch := omega) only [dpos, dneg, w64_of, inR_of, room_of, tmod_of, cond_true, cond_false, Bool.and_self, Bool.and_true, Bool.true_and, Bool.and_false, Bool.false_and, Bool.not_true, Bool.not_false, Option.bind_some, List.length_cons, List.length_nil, Nat.zero_add]
    rw [List.take_of_length_le (by omega)]
/-- What the tag is taken of. -/
def tin (d c : List UInt8) : List UInt8 := d ++ zs d.length ++ c ++ zs c.length ++ le8 (iu64 (d.length : Int)) ++ le8 (iu64 (c.length : Int))
def atag (k n d c : List UInt8) : List UInt8 := tag ((cblk k 0 n).take 32) (tin d c)
theorem atag_len (k n d c : List UInt8) : (atag k n d c).length = 16 := tag_len _ _
theorem tin_len {d c : List UInt8} (hd : d.length ≤ 4398046511104) (hc : c.length ≤ 4398046511104) : (tin d c).length ≤ 8796093022308 := by
  have := zs_len d.length; have := zs_len c.length
  unfold tin
  simp only [List.length_append, le8_len]
  omega
section
variable (N : Nat) (hN : 4611686018427387904 ≤ N) {k n d c : List UInt8} (hd : d.length ≤ 4398046511104) (hc : c.length ≤ 4398046511104)
include hN hd hc
theorem tag_ok (hk : k.length = 32) (hn : n.length = 12) : aead_Tag N k n d c = some ((true, ()), (atag k n d c, ())) := by
  unfold aead_Tag atag
  have hkd : keyed k n = true := keyed_iff.2 ⟨hk, hn⟩
  have hcl := cblk_len k 0 n
  have hcut : cut (cblk k 0 n) 0 32 = (cblk k 0 n).take 32 := by simp [cut]
  have hz1 := zs_len d.length; have hz2 := zs_len c.length
  have hp1 : aead_padded N d [] = some ((), (d ++ zs d.length, ())) := padded_ok N (l := []) (by simp; omega)
  have hp2 : aead_padded N c (d ++ zs d.length) = some ((), (d ++ zs d.length ++ c ++ zs c.length, ())) := padded_ok N (by simp; omega)
  have h8 := le8_len (iu64 (d.length : Int))
  have hl1 : aead_length N (d.length : Int) (d ++ zs d.length ++ c ++ zs c.length) = some ((), (d ++ zs d.length ++ c ++ zs c.length ++ le8 (iu64 (d.length : Int)), ())) := length_ok N hN _ (by simp; omega)
  have hl2 : aead_length N (c.length : Int) (d ++ zs d.length ++ c ++ zs c.length ++ le8 (iu64 (d.length : Int))) = some ((), (tin d c, ())) := length_ok N hN _ (by simp; omega)
  have ht : ((cblk k 0 n).take 32).length = 32 := by simp; omega
  have htin := tin_len hd hc
  have hs : poly1305_Sum N ((cblk k 0 n).take 32) (tin d c) = some ((true, ()), (tag ((cblk k 0 n).take 32) (tin d c), ())) := sum_ok N hN ht (by omega) (by omega)
  simp (disch := omega) only [dpos, dneg, w64_of, inR_of, room_of, tmod_of, cond_true, cond_false, Bool.and_self, Bool.and_true, Bool.true_and, Bool.and_false, Bool.false_and, Bool.not_true, Bool.not_false, Option.bind_some, List.length_cons, List.length_nil, Nat.zero_add, keyed_ok, hkd, cblock_ok, hp1, hp2, hl1, hl2, hcut, hs]
/-- The sealed bytes. -/
theorem seal_ok (hk : k.length = 32) (hn : n.length = 12) : aead_Seal N k n d c = some ((0, ()), (cx k 1 n c ++ atag k n d (cx k 1 n c), ())) := by
  unfold aead_Seal
  have hkd : keyed k n = true := keyed_iff.2 ⟨hk, hn⟩
  have hxl := cx_len k 1 n c
  have htl := atag_len k n d (cx k 1 n c)
  simp (disch := omega) only [dpos, dneg, w64_of, inR_of, room_of, tmod_of, cond_true, cond_false, Bool.and_self, Bool.and_true, Bool.true_and, Bool.and_false, Bool.false_and, Bool.not_true, Bool.not_false, Option.bind_some, List.length_cons, List.length_nil, Nat.zero_add, keyed_ok, hkd, xor_ok, tag_ok]
end
theorem or_zero_iff (x y : UInt8) : x ||| y = 0 ↔ x = 0 ∧ y = 0 := by
  constructor
  · intro h
    have h' := congrArg UInt8.toNat h
    rw [UInt8.toNat_or] at h'
    have z : (0 : UInt8).toNat = 0 := rfl
    rw [z] at h'
    have := Nat.left_le_or (n := x.toNat) (m := y.toNat)
    have := Nat.right_le_or (n := x.toNat) (m := y.toNat)
    exact ⟨UInt8.toNat_inj.1 (by rw [z]; omega), UInt8.toNat_inj.1 (by rw [z]; omega)⟩
  · rintro ⟨rfl, rfl⟩; rfl
theorem different_ok (N : Nat) (hN : 4611686018427387904 ≤ N) {a b : List UInt8} (h : a.length = b.length) (hl : a.length ≤ 1000) : ∃ v, aead_different N a b = some ((v, ()), ()) ∧ (v = 0 ↔ a = b) := by
  unfold aead_different aead_different_1
  have := loopK_of (N := N) (step := fun y => aead_different_s2 N y.1.1 y.1.2.1 y.1.2.2.1 y.1.2.2.2.1 y.1.2.2.2.2.1) (J := fun (e : ((UInt8 × Unit) × (Unit))) => aead_different_3 N e.1.1)
    (I := fun y => ∃ i : Nat, y = ((a, b, y.1.2.2.1, (a.length : Int), (i : Int), ()), ()) ∧ i ≤ a.length ∧ (y.1.2.2.1 = 0 ↔ a.take i = b.take i)) (μ := fun y => ((a.length : Int) - y.1.2.2.2.2.1).toNat) (T := fun r => ∃ v, r = ((v, ()), ()) ∧ (v = 0 ↔ a = b)) ?_
    (x := ((a, b, 0, (a.length : Int), 0, ()), ())) ⟨0, rfl, by omega, by simp⟩ (by simp only; omega)
  · obtain ⟨r, h1, v, rfl, h2⟩ := this
    exact ⟨v, h1, h2⟩
  · rintro ⟨⟨a', b', v, n, j, _⟩, _⟩ ⟨i, e, hi, hv⟩
    simp only [Prod.mk.injEq] at e
    obtain ⟨⟨rfl, rfl, _, rfl, rfl, _⟩, _⟩ := e
    simp only at hv ⊢
    show ∃ o, aead_different_s2 N a' b' v (a'.length : Int) (i : Int) = some o ∧ _
    unfold aead_different_s2
    by_cases hlt : i < a'.length
    · simp (disch := omega) only [dpos, dneg, w64_of, inR_of, room_of, tmod_of, cond_true, cond_false, Bool.and_self, Bool.and_true, Bool.true_and, Bool.and_false, Bool.false_and, Bool.not_true, Bool.not_false, Option.bind_some, List.length_cons, List.length_nil, Nat.zero_add, Int.toNat_natCast]
      refine ⟨_, rfl, ⟨i + 1, rfl, by omega, ?_⟩, by simp only; omega⟩
      simp only
      rw [or_zero_iff, hv, take_snoc a' 0 hlt, take_snoc b' 0 (by omega)]
      have hx : (a'.getD i 0 ^^^ b'.getD i 0 = 0) ↔ a'.getD i 0 = b'.getD i 0 := by
        constructor
        · intro e
          have := congrArg (· ^^^ b'.getD i 0) e
          simpa [UInt8.xor_assoc] using this
        · intro e; rw [e]; exact UInt8.xor_self
      rw [hx]
      constructor
      · rintro ⟨e1, e2⟩; rw [e1, e2]
      · intro e
        have := List.append_inj e (by simp; omega)
        exact ⟨this.1, by simpa using this.2⟩
    · have : i = a'.length := by omega
      subst this
      simp (disch := omega) only [dpos, dneg, w64_of, inR_of, room_of, tmod_of, cond_true, cond_false, Bool.and_self, Bool.and_true, Bool.true_and, Bool.and_false, Bool.false_and, Bool.not_true, Bool.not_false, Option.bind_some, List.length_cons, List.length_nil, Nat.zero_add]
      refine ⟨_, rfl, _, rfl, v, rfl, ?_⟩
      rw [hv, List.take_length, List.take_of_length_le (by omega)]
/-- What opening makes of bytes. -/
def aopen (k n d s : List UInt8) : List UInt8 × Int :=
  if keyed k n = false then ([], 13) else if s.length < 16 then ([], 1) else
    if atag k n d (s.take (s.length - 16)) = s.drop (s.length - 16) then (cx k 1 n (s.take (s.length - 16)), 0) else ([], 12)
theorem aopen_len (k n d s : List UInt8) : (aopen k n d s).1.length ≤ s.length := by
  unfold aopen
  split
  · simp
  · split
    · simp
    · split
      · simp [cx_len]
      · simp
section
variable (N : Nat) (hN : 4611686018427387904 ≤ N) {k n d s : List UInt8} (hd : d.length ≤ 4398046511104) (hs : s.length ≤ 4398046511104)
include hN hd hs
theorem open_ok : aead_Open N k n d s = some (((aopen k n d s).2, ()), ((aopen k n d s).1, ())) := by
  unfold aead_Open aopen
  rw [keyed_ok]
  by_cases hk : keyed k n = false
  · rw [hk]; simp only [dpos, dneg, w64_of, inR_of, room_of, tmod_of, cond_true, cond_false, Bool.and_self, Bool.and_true, Bool.true_and, Bool.and_false, Bool.false_and, Bool.not_true, Bool.not_false, Option.bind_some, List.length_cons, List.length_nil, Nat.zero_add, if_true]
  · have hk' : keyed k n = true := by simpa using hk
    obtain ⟨h1, h2⟩ := keyed_iff.1 hk'
    rw [hk', if_neg (by decide)]
    by_cases h16 : s.length < 16
    · simp (disch := omega) only [dpos, dneg, w64_of, inR_of, room_of, tmod_of, cond_true, cond_false, Bool.and_self, Bool.and_true, Bool.true_and, Bool.and_false, Bool.false_and, Bool.not_true, Bool.not_false, Option.bind_some, List.length_cons, List.length_nil, Nat.zero_add, if_pos]
    · have e1 : ((s.length : Int) - 16).toNat = s.length - 16 := by omega
      have c1 : cut s 0 (s.length - 16) = s.take (s.length - 16) := by simp [cut]
      have c2 : cut s (s.length - 16) s.length = s.drop (s.length - 16) := by simp [cut]
      have l1 : (s.take (s.length - 16)).length ≤ 4398046511104 := by simp; omega
      have l2 : (s.drop (s.length - 16)).length = 16 := by simp; omega
      have lt := atag_len k n d (s.take (s.length - 16))
      obtain ⟨v, e2, e3⟩ := different_ok N hN (a := atag k n d (s.take (s.length - 16))) (b := s.drop (s.length - 16)) (by omega) (by omega)
      simp (disch := omega) only [dpos, dneg, w64_of, inR_of, room_of, tmod_of, cond_true, cond_false, Bool.and_self, Bool.and_true, Bool.true_and, Bool.and_false, Bool.false_and, Bool.not_true, Bool.not_false, Option.bind_some, List.length_cons, List.length_nil, Nat.zero_add, e1, c1, c2, tag_ok, e2]
      by_cases hv : v = 0
      · have := e3.1 hv
        simp (disch := omega) only [dpos, dneg, w64_of, inR_of, room_of, tmod_of, cond_true, cond_false, Bool.and_self, Bool.and_true, Bool.true_and, Bool.and_false, Bool.false_and, Bool.not_true, Bool.not_false, Option.bind_some, List.length_cons, List.length_nil, Nat.zero_add, hv, decide_true, xor_ok, if_neg h16, if_pos this]
      · have hne : ¬ (atag k n d (s.take (s.length - 16)) = s.drop (s.length - 16)) := fun e => hv (e3.2 e)
        rw [dneg hv, if_neg h16, if_neg hne]
        simp only [dpos, dneg, w64_of, inR_of, room_of, tmod_of, cond_true, cond_false, Bool.and_self, Bool.and_true, Bool.true_and, Bool.and_false, Bool.false_and, Bool.not_true, Bool.not_false, Option.bind_some, List.length_cons, List.length_nil, Nat.zero_add]
end
end
end Go.Proofs.YtofajgidjkjnpaaDoor.Pl

/- Plain: payloads that are sealed (esp.Seal and the document's). -/
namespace Go.Proofs.YtofajgidjkjnpaaDoor.Pl
open Go
theorem same24 (N : Nat) (hN : 4611686018427387904 ≤ N) (a : List UInt8) (hl : a.length ≤ 1000000) : ref24_SameBytes N a a = some ((true, ()), ()) := by
  unfold ref24_SameBytes ref24_SameBytes_1
  simp (disch := omega) only [dpos, dneg, w64_of, inR_of, room_of, tmod_of, cond_true, cond_false, Bool.and_self, Bool.and_true, Bool.true_and, Bool.and_false, Bool.false_and, Bool.not_true, Bool.not_false, Option.bind_some, List.length_cons, List.length_nil, Nat.zero_add]
  refine (loopK_run (fun i : Nat => ((a, a, (i : Int), ()), ())) (n := a.length) ?_ (e := ((), ())) ?_ (by omega)).trans ?_
  · intro i hi
    show ref24_SameBytes_s2 N _ _ _ = _
    unfold ref24_SameBytes_s2
    simp (disch := omega) only [dpos, dneg, w64_of, inR_of, room_of, tmod_of, cond_true, cond_false, Bool.and_self, Bool.and_true, Bool.true_and, Bool.and_false, Bool.false_and, Bool.not_true, Bool.not_false, Option.bind_some, List.length_cons, List.length_nil, Nat.zero_add, decide_true, Int.natCast_add, Int.natCast_one]
  · show ref24_SameBytes_s2 N _ _ _ = _
    unfold ref24_SameBytes_s2
    simp (disch := omega) only [dpos, dneg, w64_of, inR_of, room_of, tmod_of, cond_true, cond_false, Bool.and_self, Bool.and_true, Bool.true_and, Bool.and_false, Bool.false_and, Bool.not_true, Bool.not_false, Option.bind_some, List.length_cons, List.length_nil, Nat.zero_add]
  · rfl
/-- How many bytes of padding. -/
def epad (l e : Int) : Int := e + (4 - (l + e + 2) % 4) % 4
def seqb (n : Nat) : List UInt8 := (List.range n).map fun (j : Nat) => iu8 ((j : Int) + 1)
theorem seqb_len (n : Nat) : (seqb n).length = n := by simp [seqb]
theorem seqb_succ (n : Nat) : seqb (n + 1) = seqb n ++ [iu8 ((n : Int) + 1)] := by unfold seqb; rw [List.range_succ, List.map_append]; rfl
def epl (p : List UInt8) (n next : Int) : List UInt8 := p ++ seqb n.toNat ++ [iu8 n, iu8 next]
def enon (k : List UInt8) (num : UInt64) : List UInt8 := k.drop 32 ++ be num 8
def edat (spi : UInt32) (num : UInt64) : List UInt8 := be spi.toUInt64 4 ++ be num 8
def esealed (k : List UInt8) (spi : UInt32) (num : UInt64) (plain : List UInt8) : List UInt8 :=
  be spi.toUInt64 4 ++ be num 4 ++ (cx (k.take 32) 1 (enon k num) plain ++ atag (k.take 32) (enon k num) (edat spi num) (cx (k.take 32) 1 (enon k num) plain))
def eseal (k : List UInt8) (spi : UInt32) (num : UInt64) (next : Int) (p : List UInt8) (extra : Int) : List UInt8 × Int :=
  if k.length = 36 then (if next < 0 ∨ 255 < next ∨ extra < 0 ∨ 250 < extra ∨ num = 0 then ([], 5) else if 4096 < p.length then ([], 11) else (esealed k spi num (epl p (epad p.length extra) next), 0)) else ([], 13)
theorem esealed_len (k : List UInt8) (spi : UInt32) (num : UInt64) (plain : List UInt8) : (esealed k spi num plain).length = plain.length + 24 := by
  unfold esealed
  simp only [List.length_append, be_len, cx_len, atag_len]; omega
theorem epl_len (p : List UInt8) (n next : Int) : (epl p n next).length = p.length + n.toNat + 2 := by
  unfold epl
  simp only [List.length_append, seqb_len, List.length_cons, List.length_nil]
section
variable (N : Nat) (hN : 4611686018427387904 ≤ N) {k : List UInt8} (hk : k.length = 36) (spi : UInt32) (num : UInt64)
include hN hk
theorem nonce_e : esp_nonce N k num = some ((), (enon k num, ())) := by
  unfold esp_nonce enon
  have hc : cut k 32 k.length = k.drop 32 := by simp [cut]
  have hl : (k.drop 32).length = 4 := by simp; omega
  have hw : wire_Put N num 8 (k.drop 32) = some ((), (k.drop 32 ++ be num 8, ())) := wire_put N (by omega) (by omega) (by omega) (by omega)
  simp (disch := omega) only [dpos, dneg, w64_of, inR_of, room_of, tmod_of, cond_true, cond_false, Bool.and_self, Bool.and_true, Bool.true_and, Bool.and_false, Bool.false_and, Bool.not_true, Bool.not_false, Option.bind_some, List.length_cons, List.length_nil, Nat.zero_add, hc, hw]
omit hk in
theorem data_e : esp_data N spi num = some ((), (edat spi num, ())) := by
  unfold esp_data edat
  have hb := be_len spi.toUInt64 4
  have h1 : wire_Put N spi.toUInt64 4 [] = some ((), (be spi.toUInt64 4, ())) := wire_put N (by omega) (by omega) (by simp) (by omega)
  have h2 : wire_Put N num 8 (be spi.toUInt64 4) = some ((), (be spi.toUInt64 4 ++ be num 8, ())) := wire_put N (by omega) (by omega) (by omega) (by omega)
  simp only [dpos, dneg, w64_of, inR_of, room_of, tmod_of, cond_true, cond_false, Bool.and_self, Bool.and_true, Bool.true_and, Bool.and_false, Bool.false_and, Bool.not_true, Bool.not_false, Option.bind_some, List.length_cons, List.length_nil, Nat.zero_add, h1, h2]
omit hN in
theorem enon_len : (enon k num).length = 12 := by unfold enon; simp only [List.length_append, List.length_drop, be_len]; omega
omit hN hk in
theorem edat_len : (edat spi num).length = 12 := by unfold edat; simp only [List.length_append, be_len]
theorem seal_7 (next n : Int) {pl : List UInt8} (hp : pl.length ≤ 1000000) : esp_Seal_7 N k spi num next n pl = some ((0, ()), (esealed k spi num (pl ++ [iu8 n, iu8 next]), ())) := by
  unfold esp_Seal_7 esealed
  have hc : cut k 0 32 = k.take 32 := by simp [cut]
  have hl : (k.take 32).length = 32 := by simp; omega
  have h1 : wire_Put N spi.toUInt64 4 [] = some ((), (be spi.toUInt64 4, ())) := wire_put N (by omega) (by omega) (by simp) (by omega)
  have hb := be_len spi.toUInt64 4
  have hb2 := be_len num 4
  have h2 : wire_Put N num 4 (be spi.toUInt64 4) = some ((), (be spi.toUInt64 4 ++ be num 4, ())) := wire_put N (by omega) (by omega) (by omega) (by omega)
  have hpl : (pl ++ [iu8 n, iu8 next]).length ≤ 1000002 := by simp; omega
  have hen := enon_len hk num
  have hdl := edat_len spi num
  have hs : aead_Seal N (k.take 32) (enon k num) (edat spi num) (pl ++ [iu8 n, iu8 next]) = some ((0, ()), (cx (k.take 32) 1 (enon k num) (pl ++ [iu8 n, iu8 next]) ++ atag (k.take 32) (enon k num) (edat spi num) (cx (k.take 32) 1 (enon k num) (pl ++ [iu8 n, iu8 next])), ())) := seal_ok N hN (by omega) (by omega) hl hen
  have hxl := cx_len (k.take 32) 1 (enon k num) (pl ++ [iu8 n, iu8 next])
  generalize pl ++ [iu8 n, iu8 next] = P at *
  have htl := atag_len (k.take 32) (enon k num) (edat spi num) (cx (k.take 32) 1 (enon k num) P)
  rw [nonce_e N hN hk, data_e N hN]
  simp (disch := omega) only [dpos, dneg, w64_of, inR_of, room_of, tmod_of, cond_true, cond_false, Bool.and_self, Bool.and_true, Bool.true_and, Bool.and_false, Bool.false_and, Bool.not_true, Bool.not_false, Option.bind_some, List.length_cons, List.length_nil, Nat.zero_add, hc, hs, h1, h2, decide_true, List.length_append, hb, hb2, hxl, htl]
theorem seal_4 (next : Int) {n : Int} (h0 : 0 ≤ n) (h1 : n ≤ 300) {p : List UInt8} (hp : p.length ≤ 4096) : esp_Seal_4 N k spi num next p n = some ((0, ()), (esealed k spi num (epl p n next), ())) := by
  unfold esp_Seal_4
  simp (disch := omega) only [dpos, dneg, w64_of, inR_of, room_of, tmod_of, cond_true, cond_false, Bool.and_self, Bool.and_true, Bool.true_and, Bool.and_false, Bool.false_and, Bool.not_true, Bool.not_false, Option.bind_some, List.length_cons, List.length_nil, Nat.zero_add]
  unfold esp_Seal_5
  obtain ⟨q, rfl⟩ := Int.eq_ofNat_of_zero_le h0
  have := loopK_run (step := fun y => esp_Seal_s6 N y.1.1 y.1.2.1 y.1.2.2.1 y.1.2.2.2.1 y.1.2.2.2.2.1 y.1.2.2.2.2.2.1 y.1.2.2.2.2.2.2.1 y.2.1) (J := fun (e : (((List UInt8) × UInt32 × UInt64 × Int × Int × Unit) × ((List UInt8) × Unit))) => esp_Seal_7 N e.1.1 e.1.2.1 e.1.2.2.1 e.1.2.2.2.1 e.1.2.2.2.2.1 e.2.1)
    (fun i : Nat => ((k, spi, num, next, (q : Int), (q : Int), (i : Int), ()), (p ++ seqb i, ()))) (n := q) (e := ((k, spi, num, next, (q : Int), ()), (p ++ seqb q, ()))) ?_ ?_ (show q < N by omega)
  · have e0 : p ++ seqb 0 = p := by simp [seqb]
    simp only [e0] at this
    refine this.trans ?_
    exact seal_7 N hN hk spi num next q (by simp only [List.length_append, seqb_len]; omega)
  · intro i hi
    have hl := seqb_len i
    show esp_Seal_s6 N _ _ _ _ _ _ _ _ = _
    unfold esp_Seal_s6
    simp (disch := omega) only [dpos, dneg, w64_of, inR_of, room_of, tmod_of, cond_true, cond_false, Bool.and_self, Bool.and_true, Bool.true_and, Bool.and_false, Bool.false_and, Bool.not_true, Bool.not_false, Option.bind_some, List.length_cons, List.length_nil, Nat.zero_add, List.length_append, hl, seqb_succ, List.append_assoc, Int.natCast_add, Int.natCast_one]
  · show esp_Seal_s6 N _ _ _ _ _ _ _ _ = _
    unfold esp_Seal_s6
    simp (disch := omega) only [dpos, dneg, w64_of, inR_of, room_of, tmod_of, cond_true, cond_false, Bool.and_self, Bool.and_true, Bool.true_and, Bool.and_false, Bool.false_and, Bool.not_true, Bool.not_false, Option.bind_some, List.length_cons, List.length_nil, Nat.zero_add]
theorem seal_2 (next : Int) {x : Int} (h0 : 0 ≤ x) (h1 : x ≤ 250) {p : List UInt8} (hp : p.length ≤ 4096) : esp_Seal_2 N k spi num next p x = some ((0, ()), (esealed k spi num (epl p (epad p.length x) next), ())) := by
  unfold esp_Seal_2
  obtain ⟨j, hj⟩ : ∃ j : Nat, (j : Int) = (4 - ((p.length : Int) + x + 2) % 4) % 4 := ⟨((4 - ((p.length : Int) + x + 2) % 4) % 4).toNat, by omega⟩
  have := loopK_run (step := fun y => esp_Seal_s3 N y.1.1 y.1.2.1 y.1.2.2.1 y.1.2.2.2.1 y.1.2.2.2.2.1 y.1.2.2.2.2.2.1) (J := fun (e : (((List UInt8) × UInt32 × UInt64 × Int × (List UInt8) × Int × Unit) × (Unit))) => esp_Seal_4 N e.1.1 e.1.2.1 e.1.2.2.1 e.1.2.2.2.1 e.1.2.2.2.2.1 e.1.2.2.2.2.2.1)
    (fun i : Nat => ((k, spi, num, next, p, x + (i : Int), ()), ())) (n := j) (e := ((k, spi, num, next, p, x + (j : Int), ()), ())) ?_ ?_ (show j < N by omega)
  · simp only [Int.natCast_zero, Int.add_zero] at this
    refine this.trans ?_
    have he : x + (j : Int) = epad p.length x := by unfold epad; rw [hj]
    rw [← he]
    exact seal_4 N hN hk spi num next (by omega) (by omega) hp
  · intro i hi
    show esp_Seal_s3 N _ _ _ _ _ _ = _
    unfold esp_Seal_s3
    simp (disch := omega) only [dpos, dneg, w64_of, inR_of, room_of, tmod_of, cond_true, cond_false, Bool.and_self, Bool.and_true, Bool.true_and, Bool.and_false, Bool.false_and, Bool.not_true, Bool.not_false, Option.bind_some, List.length_cons, List.length_nil, Nat.zero_add, Int.natCast_add, Int.natCast_one, Int.add_assoc]
  · show esp_Seal_s3 N _ _ _ _ _ _ = _
    unfold esp_Seal_s3
    simp (disch := omega) only [dpos, dneg, w64_of, inR_of, room_of, tmod_of, cond_true, cond_false, Bool.and_self, Bool.and_true, Bool.true_and, Bool.and_false, Bool.false_and, Bool.not_true, Bool.not_false, Option.bind_some, List.length_cons, List.length_nil, Nat.zero_add]
end
theorem eseal_ok (N : Nat) (hN : 4611686018427387904 ≤ N) (k : List UInt8) (spi : UInt32) (num : UInt64) (next : Int) (p : List UInt8) (extra : Int) : esp_Seal N k spi num next p extra = some (((eseal k spi num next p extra).2, ()), ((eseal k spi num next p extra).1, ())) := by
  unfold esp_Seal esp_Seal_1 eseal
  by_cases hk : k.length = 36
  · rw [if_pos hk]
    by_cases h1 : next < 0
    · simp (disch := omega) only [dpos, dneg, w64_of, inR_of, room_of, tmod_of, cond_true, cond_false, Bool.and_self, Bool.and_true, Bool.true_and, Bool.and_false, Bool.false_and, Bool.not_true, Bool.not_false, Option.bind_some, List.length_cons, List.length_nil, Nat.zero_add]; rw [if_pos (by omega)]
    by_cases h2 : 255 < next
    · simp (disch := omega) only [dpos, dneg, w64_of, inR_of, room_of, tmod_of, cond_true, cond_false, Bool.and_self, Bool.and_true, Bool.true_and, Bool.and_false, Bool.false_and, Bool.not_true, Bool.not_false, Option.bind_some, List.length_cons, List.length_nil, Nat.zero_add]; rw [if_pos (by omega)]
    by_cases h3 : extra < 0
    · simp (disch := omega) only [dpos, dneg, w64_of, inR_of, room_of, tmod_of, cond_true, cond_false, Bool.and_self, Bool.and_true, Bool.true_and, Bool.and_false, Bool.false_and, Bool.not_true, Bool.not_false, Option.bind_some, List.length_cons, List.length_nil, Nat.zero_add]; rw [if_pos (by omega)]
    by_cases h4 : 250 < extra
    · simp (disch := omega) only [dpos, dneg, w64_of, inR_of, room_of, tmod_of, cond_true, cond_false, Bool.and_self, Bool.and_true, Bool.true_and, Bool.and_false, Bool.false_and, Bool.not_true, Bool.not_false, Option.bind_some, List.length_cons, List.length_nil, Nat.zero_add]; rw [if_pos (by omega)]
    by_cases h5 : num = 0
    · simp (disch := first | omega | exact h5) only [dpos, dneg, w64_of, inR_of, room_of, tmod_of, cond_true, cond_false, Bool.and_self, Bool.and_true, Bool.true_and, Bool.and_false, Bool.false_and, Bool.not_true, Bool.not_false, Option.bind_some, List.length_cons, List.length_nil, Nat.zero_add]; rw [if_pos (by simp [h5])]
    by_cases h6 : 4096 < p.length
    · simp (disch := first | omega | exact h5) only [dpos, dneg, w64_of, inR_of, room_of, tmod_of, cond_true, cond_false, Bool.and_self, Bool.and_true, Bool.true_and, Bool.and_false, Bool.false_and, Bool.not_true, Bool.not_false, Option.bind_some, List.length_cons, List.length_nil, Nat.zero_add]; rw [if_neg (by simp [h1, h2, h3, h4, h5]), if_pos h6]
    · rw [if_neg (by simp [h1, h2, h3, h4, h5]), if_neg h6]
      simp (disch := first | omega | exact h5) only [dpos, dneg, w64_of, inR_of, room_of, tmod_of, cond_true, cond_false, Bool.and_self, Bool.and_true, Bool.true_and, Bool.and_false, Bool.false_and, Bool.not_true, Bool.not_false, Option.bind_some, List.length_cons, List.length_nil, Nat.zero_add, seal_2 N hN hk]
  · rw [if_neg hk]; simp (disch := omega) only [dpos, dneg, w64_of, inR_of, room_of, tmod_of, cond_true, cond_false, Bool.and_self, Bool.and_true, Bool.true_and, Bool.and_false, Bool.false_and, Bool.not_true, Bool.not_false, Option.bind_some, List.length_cons, List.length_nil, Nat.zero_add]
end Go.Proofs.YtofajgidjkjnpaaDoor.Pl

/- Plain: loops that look for the first place where a test holds. -/
namespace Go.Proofs.YtofajgidjkjnpaaDoor.Pl
open Go
/-- The first number below n, from k on, at which a test holds. -/
def firstAt (q : Nat → Bool) (k : Nat) : Nat → Option Nat
  | 0 => none
  | n + 1 => if q k = true then some k else firstAt q (k + 1) n
theorem firstAt_none {q : Nat → Bool} : ∀ {n k : Nat}, firstAt q k n = none ↔ ∀ i, k ≤ i → i < k + n → q i = false
  | 0, k => ⟨fun _ i h h' => by omega, fun _ => rfl⟩
  | n + 1, k => by
    unfold firstAt
    by_cases h : q k = true
    · rw [if_pos h]
      constructor
      · intro h'; cases h'
      · intro h'; rw [h' k (by omega) (by omega)] at h; cases h
    · rw [if_neg h, firstAt_none]
      constructor
      · intro h' i h1 h2
        by_cases e : i = k
        · subst e; simpa using h
        · exact h' i (by omega) (by omega)
      · intro h' i h1 h2; exact h' i (by omega) (by omega)
/-- A loop that ends where a test holds first. -/
theorem loopK_find {S E R : Type} {step : S → Option (Lo S E R)} {J : E → Option R} (xs : Nat → S) (q : Nat → Bool) (r : Nat → R) {n : Nat} {e : E}
    (h : ∀ i, i < n → q i = false → step (xs i) = some (.go (xs (i + 1)))) (h' : ∀ i, i < n → q i = true → step (xs i) = some (.rt (r i))) (hb : step (xs n) = some (.br e)) {N : Nat} (hN : n < N) :
    loopK N step J (xs 0) = match firstAt q 0 n with
      | none => J e
      | some i => some (r i) := by
  suffices H : ∀ m k, k + m = n → ∀ M, m < M → loopK M step J (xs k) = match firstAt q k m with
      | none => J e
      | some i => some (r i) from H n 0 (by omega) N hN
  intro m
  induction m with
  | zero =>
    intro k hk M hM
    obtain ⟨M, rfl⟩ : ∃ m, M = m + 1 := ⟨M - 1, by omega⟩
    have : k = n := by omega
    subst this
    rw [loopK_succ, hb]; rfl
  | succ m ih =>
    intro k hk M hM
    obtain ⟨M, rfl⟩ : ∃ m, M = m + 1 := ⟨M - 1, by omega⟩
    unfold firstAt
    cases hq : q k with
    | true => rw [loopK_succ, h' k (by omega) hq, if_pos rfl]; rfl
    | false =>
      rw [loopK_succ, h k (by omega) hq, if_neg (by decide)]
      exact ih (k + 1) (by omega) M (by omega)
/-- Tests up to n that all hold. -/
def allB (q : Nat → Bool) (n : Nat) : Bool := (firstAt (fun i => !(q i)) 0 n).isNone
theorem allB_iff {q : Nat → Bool} {n : Nat} : allB q n = true ↔ ∀ i, i < n → q i = true := by
  unfold allB
  rw [Option.isNone_iff_eq_none, firstAt_none]
  constructor
  · intro h i hi; have := h i (by omega) (by omega); simpa using this
  · intro h i h1 h2; rw [h i (by omega)]; rfl
/-- A loop that ends with one answer as soon as a test fails. -/
theorem loopK_all {S E R : Type} {step : S → Option (Lo S E R)} {J : E → Option R} (xs : Nat → S) (q : Nat → Bool) (r : R) {n : Nat} {e : E}
    (h : ∀ i, i < n → q i = true → step (xs i) = some (.go (xs (i + 1)))) (h' : ∀ i, i < n → q i = false → step (xs i) = some (.rt r)) (hb : step (xs n) = some (.br e)) {N : Nat} (hN : n < N) :
    loopK N step J (xs 0) = if allB q n = true then J e else some r := by
  rw [loopK_find (step := step) (J := J) xs (fun i => !(q i)) (fun _ => r) (fun i hi hq => h i hi (by simpa using hq)) (fun i hi hq => h' i hi (by simpa using hq)) hb hN]
  unfold allB
  cases firstAt (fun i => !(q i)) 0 n <;> simp
end Go.Proofs.YtofajgidjkjnpaaDoor.Pl

/- Plain: ESP bytes that are opened (esp.Open, esp.Head and the document's). -/
namespace Go.Proofs.YtofajgidjkjnpaaDoor.Pl
open Go
/-- The head of ESP bytes. -/
def ehead (b : List UInt8) : UInt32 × UInt32 × Int := if b.length < 8 then (0, 0, 1) else ((nbr (b.take 4)).toUInt32, (nbr ((b.drop 4).take 4)).toUInt32, 0)
theorem wire_short (N : Nat) {b : List UInt8} {at_ w : Int} (hw : 1 ≤ w) (hw8 : w ≤ 8) (h0 : 0 ≤ at_) (h1 : at_ ≤ 100000) (hb : (b.length : Int) < at_ + w) (hl : b.length ≤ 70368744177664) :
    ∃ v, wire_Number N b at_ w = some ((v, false, ()), ()) := by
  unfold wire_Number wire_Number_1 wire_Slice wire_Slice_1
  by_cases h : at_ ≤ (b.length : Int)
  · simp (disch := omega) only [dpos, dneg, w64_of, inR_of, room_of, tmod_of, cond_true, cond_false, Bool.and_self, Bool.and_true, Bool.true_and, Bool.and_false, Bool.false_and, Bool.not_true, Bool.not_false, Option.bind_some, List.length_cons, List.length_nil, Nat.zero_add]
    exact ⟨_, rfl⟩
  · simp (disch := omega) only [dpos, dneg, w64_of, inR_of, room_of, tmod_of, cond_true, cond_false, Bool.and_self, Bool.and_true, Bool.true_and, Bool.and_false, Bool.false_and, Bool.not_true, Bool.not_false, Option.bind_some, List.length_cons, List.length_nil, Nat.zero_add]
    exact ⟨_, rfl⟩
theorem head_ok (N : Nat) (hN : 8 < N) {b : List UInt8} (hl : b.length ≤ 100000) : esp_Head N b = some (((ehead b).1, (ehead b).2.1, (ehead b).2.2, ()), ()) := by
  unfold esp_Head esp_Head_1 ehead
  by_cases h4 : b.length < 4
  · obtain ⟨v, e1⟩ := wire_short N (b := b) (at_ := 0) (w := 4) (by omega) (by omega) (by omega) (by omega) (by omega) (by omega)
    obtain ⟨u, e2⟩ := wire_short N (b := b) (at_ := 4) (w := 4) (by omega) (by omega) (by omega) (by omega) (by omega) (by omega)
    rw [e1, e2, if_pos (by omega)]
    rfl
  · rw [wire_number N (b := b) (at_ := 0) (w := 4) (by omega) (by omega) (by omega) (by omega) (by omega) hN]
    by_cases h8 : b.length < 8
    · obtain ⟨u, e2⟩ := wire_short N (b := b) (at_ := 4) (w := 4) (by omega) (by omega) (by omega) (by omega) (by omega) (by omega)
      rw [e2, if_pos h8]
      rfl
    · rw [wire_number N (b := b) (at_ := 4) (w := 4) (by omega) (by omega) (by omega) (by omega) (by omega) hN, if_neg h8]
      rfl
/-- The plain bytes without their padding. -/
def epadOk (pl : List UInt8) : Bool := allB (fun i => decide (pl.getD (pl.length - 2 - (pl.getD (pl.length - 2) 0).toNat + i) 0 = iu8 ((i : Int) + 1))) (pl.getD (pl.length - 2) 0).toNat
def eopenP (pl : List UInt8) : List UInt8 × Int × Int :=
  if pl.length < 2 ∨ pl.length - 2 < (pl.getD (pl.length - 2) 0).toNat then ([], 0, 2) else
    if epadOk pl = true then (pl.take (pl.length - 2 - (pl.getD (pl.length - 2) 0).toNat), ((pl.getD (pl.length - 1) 0).toNat : Int), 0) else ([], 0, 4)
def eopen (k b : List UInt8) (num : UInt64) : List UInt8 × Int × Int :=
  if k.length = 36 then (if b.length < 24 then ([], 0, 1) else if (nbr ((b.drop 4).take 4)).toUInt32 = num.toUInt32 then
    (if (aopen (k.take 32) (enon k num) (edat (nbr (b.take 4)).toUInt32 num) (b.drop 8)).2 = 0 then eopenP (aopen (k.take 32) (enon k num) (edat (nbr (b.take 4)).toUInt32 num) (b.drop 8)).1 else ([], 0, (aopen (k.take 32) (enon k num) (edat (nbr (b.take 4)).toUInt32 num) (b.drop 8)).2)) else ([], 0, 22)) else ([], 0, 13)
theorem iu8_small {n : Int} (h0 : 0 ≤ n) (h1 : n < 256) : ((iu8 n).toNat : Int) = n := by
  obtain ⟨m, rfl⟩ := Int.eq_ofNat_of_zero_le h0
  show ((BitVec.ofInt 8 (m : Int)).toNat : Int) = _
  rw [BitVec.toNat_ofInt]; omega
theorem open_1 (N : Nat) (hN : 4611686018427387904 ≤ N) {pl : List UInt8} (hl : pl.length ≤ 100000) (h2 : 2 ≤ pl.length) :
    esp_Open_1 N ((pl.length : Int) - 2) (decide ((pl.length : Int) - 2 < ((pl.getD (pl.length - 2) 0).toNat : Int))) pl = some (((eopenP pl).1, (eopenP pl).2.1, (eopenP pl).2.2, ()), ()) := by
  unfold esp_Open_1 eopenP epadOk
  have e0 : ((pl.length : Int) - 2).toNat = pl.length - 2 := by omega
  have hb := (pl.getD (pl.length - 2) 0).toNat_lt
  rw [e0]
  generalize hn : (pl.getD (pl.length - 2) 0).toNat = n at *
  by_cases h3 : pl.length - 2 < n
  · rw [if_pos (.inr h3)]
    simp (disch := omega) only [dpos, dneg, w64_of, inR_of, room_of, tmod_of, cond_true, cond_false, Bool.and_self, Bool.and_true, Bool.true_and, Bool.and_false, Bool.false_and, Bool.not_true, Bool.not_false, Option.bind_some, List.length_cons, List.length_nil, Nat.zero_add]
  · rw [if_neg (by omega)]
    have e1 : ((pl.length : Int) - 2 - (n : Int)).toNat = pl.length - 2 - n := by omega
    have c1 : cut pl (pl.length - 2 - n) (pl.length - 2) = (pl.drop (pl.length - 2 - n)).take n := by
      have := cut_at pl (pl.length - 2 - n) n
      rwa [show pl.length - 2 - n + n = pl.length - 2 by omega] at this
    simp (disch := omega) only [dpos, dneg, w64_of, inR_of, room_of, tmod_of, cond_true, cond_false, Bool.and_self, Bool.and_true, Bool.true_and, Bool.and_false, Bool.false_and, Bool.not_true, Bool.not_false, Option.bind_some, List.length_cons, List.length_nil, Nat.zero_add, e1, c1, e0]
    have hlen : ((pl.drop (pl.length - 2 - n)).take n).length = n := by simp; omega
    have hget : ∀ i, i < n → ((pl.drop (pl.length - 2 - n)).take n).getD i 0 = pl.getD (pl.length - 2 - n + i) 0 := by
      intro i hi
      rw [List.getD_eq_getElem?_getD, List.getD_eq_getElem?_getD, List.getElem?_take, if_pos hi, List.getElem?_drop]
    unfold esp_Open_2
    generalize (pl.drop (pl.length - 2 - n)).take n = s at *
    refine (loopK_all (fun i : Nat => ((pl, (pl.length : Int) - 2, (n : Int), s, (s.length : Int), (i : Int), ()), ())) (fun i => decide (pl.getD (pl.length - 2 - n + i) 0 = iu8 ((i : Int) + 1))) (([], 0, 4, ()), ()) (n := n) (e := ((pl, (pl.length : Int) - 2, (n : Int), ()), ())) ?_ ?_ ?_ (show n < N by omega)).trans ?_
    · intro i hi hq
      show esp_Open_s3 N _ _ _ _ _ _ = _
      unfold esp_Open_s3
      have h8 := iu8_small (n := (i : Int) + 1) (by omega) (by omega)
      rw [decide_eq_true_eq, ← hget i hi] at hq
      simp (disch := omega) only [dpos, dneg, w64_of, inR_of, room_of, tmod_of, cond_true, cond_false, Bool.and_self, Bool.and_true, Bool.true_and, Bool.and_false, Bool.false_and, Bool.not_true, Bool.not_false, Option.bind_some, List.length_cons, List.length_nil, Nat.zero_add, Int.toNat_natCast, hq, h8, decide_true, Int.natCast_add, Int.natCast_one]
    · intro i hi hq
      show esp_Open_s3 N _ _ _ _ _ _ = _
      unfold esp_Open_s3
      have h8 := iu8_small (n := (i : Int) + 1) (by omega) (by omega)
      rw [decide_eq_false_iff_not, ← hget i hi] at hq
      have hne : ¬ (((s.getD i 0).toNat : Int) = (i : Int) + 1) := fun e => hq (UInt8.toNat_inj.1 (by omega))
      simp (disch := first | omega | exact hne) only [dpos, dneg, w64_of, inR_of, room_of, tmod_of, cond_true, cond_false, Bool.and_self, Bool.and_true, Bool.true_and, Bool.and_false, Bool.false_and, Bool.not_true, Bool.not_false, Option.bind_some, List.length_cons, List.length_nil, Nat.zero_add, Int.toNat_natCast]
    · show esp_Open_s3 N _ _ _ _ _ _ = _
      unfold esp_Open_s3
      simp (disch := omega) only [dpos, dneg, w64_of, inR_of, room_of, tmod_of, cond_true, cond_false, Bool.and_self, Bool.and_true, Bool.true_and, Bool.and_false, Bool.false_and, Bool.not_true, Bool.not_false, Option.bind_some, List.length_cons, List.length_nil, Nat.zero_add]
    · split
      · unfold esp_Open_4
        have e3 : ((pl.length : Int) - 2 + 1).toNat = pl.length - 1 := by omega
        have c2 : cut pl 0 (pl.length - 2 - n) = pl.take (pl.length - 2 - n) := by simp [cut]
        simp (disch := omega) only [dpos, dneg, w64_of, inR_of, room_of, tmod_of, cond_true, cond_false, Bool.and_self, Bool.and_true, Bool.true_and, Bool.and_false, Bool.false_and, Bool.not_true, Bool.not_false, Option.bind_some, List.length_cons, List.length_nil, Nat.zero_add, e1, e3, c2]
      · rfl
theorem eopen_ok (N : Nat) (hN : 4611686018427387904 ≤ N) (k : List UInt8) {b : List UInt8} (num : UInt64) (hl : b.length ≤ 100000) : esp_Open N k b num = some (((eopen k b num).1, (eopen k b num).2.1, (eopen k b num).2.2, ()), ()) := by
  unfold esp_Open eopen
  by_cases hk : k.length = 36
  · rw [if_pos hk]
    by_cases h24 : b.length < 24
    · simp (disch := omega) only [dpos, dneg, w64_of, inR_of, room_of, tmod_of, cond_true, cond_false, Bool.and_self, Bool.and_true, Bool.true_and, Bool.and_false, Bool.false_and, Bool.not_true, Bool.not_false, Option.bind_some, List.length_cons, List.length_nil, Nat.zero_add, if_pos h24]
    · have hh := head_ok N (by omega) hl
      unfold ehead at hh
      rw [if_neg (show ¬ b.length < 8 by omega)] at hh
      have c1 : cut k 0 32 = k.take 32 := by simp [cut]
      have c2 : cut b 8 b.length = b.drop 8 := by simp [cut]
      have l2 : (b.drop 8).length ≤ 100000 := by simp; omega
      have l3 := edat_len (nbr (b.take 4)).toUInt32 num
      rw [if_neg h24]
      by_cases hw : (nbr ((b.drop 4).take 4)).toUInt32 = num.toUInt32
      · have hop := open_ok N hN (k := k.take 32) (n := enon k num) (d := edat (nbr (b.take 4)).toUInt32 num) (s := b.drop 8) (by omega) (by omega)
        have hlo := aopen_len (k.take 32) (enon k num) (edat (nbr (b.take 4)).toUInt32 num) (b.drop 8)
        simp (disch := first | omega | exact hw) only [dpos, dneg, w64_of, inR_of, room_of, tmod_of, cond_true, cond_false, Bool.and_self, Bool.and_true, Bool.true_and, Bool.and_false, Bool.false_and, Bool.not_true, Bool.not_false, Option.bind_some, List.length_cons, List.length_nil, Nat.zero_add, hh, c1, c2, nonce_e N hN hk, data_e N hN, hop, if_pos hw]
        generalize aopen (k.take 32) (enon k num) (edat (nbr (b.take 4)).toUInt32 num) (b.drop 8) = r at *
        obtain ⟨pl, e⟩ := r
        simp only at hlo ⊢
        by_cases he : e = 0
        · rw [if_pos he]
          by_cases h2 : pl.length < 2
          · unfold esp_Open_1 eopenP
            rw [if_pos (.inl h2)]
            simp (disch := omega) only [dpos, dneg, w64_of, inR_of, room_of, tmod_of, cond_true, cond_false, Bool.and_self, Bool.and_true, Bool.true_and, Bool.and_false, Bool.false_and, Bool.not_true, Bool.not_false, Option.bind_some, List.length_cons, List.length_nil, Nat.zero_add]
          · have e0 : ((pl.length : Int) - 2).toNat = pl.length - 2 := by omega
            simp (disch := omega) only [dpos, dneg, w64_of, inR_of, room_of, tmod_of, cond_true, cond_false, Bool.and_self, Bool.and_true, Bool.true_and, Bool.and_false, Bool.false_and, Bool.not_true, Bool.not_false, Option.bind_some, List.length_cons, List.length_nil, Nat.zero_add, e0]
            exact open_1 N hN (by omega) (by omega)
        · simp (disch := omega) only [dpos, dneg, w64_of, inR_of, room_of, tmod_of, cond_true, cond_false, Bool.and_self, Bool.and_true, Bool.true_and, Bool.and_false, Bool.false_and, Bool.not_true, Bool.not_false, Option.bind_some, List.length_cons, List.length_nil, Nat.zero_add, if_neg he]
      · simp (disch := first | omega | exact hw) only [dpos, dneg, w64_of, inR_of, room_of, tmod_of, cond_true, cond_false, Bool.and_self, Bool.and_true, Bool.true_and, Bool.and_false, Bool.false_and, Bool.not_true, Bool.not_false, Option.bind_some, List.length_cons, List.length_nil, Nat.zero_add, hh, if_neg hw]
  · simp (disch := omega) only [dpos, dneg, w64_of, inR_of, room_of, tmod_of, cond_true, cond_false, Bool.and_self, Bool.and_true, Bool.true_and, Bool.and_false, Bool.false_and, Bool.not_true, Bool.not_false, Option.bind_some, List.length_cons, List.length_nil, Nat.zero_add, if_neg hk]
theorem u64_and (v : UInt64) : v &&& 4294967295 = v.toUInt32.toUInt64 := by
  apply UInt64.toNat_inj.1
  rw [UInt64.toNat_and, UInt32.toNat_toUInt64, UInt64.toNat_toUInt32]
  show v.toNat &&& (2 ^ 32 - 1) = _
  rw [Nat.and_two_pow_sub_one_eq_mod]
end Go.Proofs.YtofajgidjkjnpaaDoor.Pl

/- Plain: what ESP seals it opens again. -/
namespace Go.Proofs.YtofajgidjkjnpaaDoor.Pl
open Go
theorem aopen_seal {k n : List UInt8} (hk : keyed k n = true) (d x : List UInt8) : aopen k n d (cx k 1 n x ++ atag k n d (cx k 1 n x)) = (x, 0) := by
  unfold aopen
  have hl : (cx k 1 n x ++ atag k n d (cx k 1 n x)).length = (cx k 1 n x).length + 16 := by rw [List.length_append, atag_len]
  rw [if_neg (by rw [hk]; decide), if_neg (by omega), hl, Nat.add_sub_cancel, List.take_left, List.drop_left, if_pos rfl, cx_twice]
theorem getD_behind {p q : List UInt8} {i : Nat} : (p ++ q).getD (p.length + i) 0 = q.getD i 0 := by
  rw [List.getD, List.getD, List.getElem?_append_right (by omega), Nat.add_sub_cancel_left]
theorem eopenP_epl {p : List UInt8} {n next : Int} (h0 : 0 ≤ n) (h1 : n ≤ 250) (q0 : 0 ≤ next) (q1 : next ≤ 255) : eopenP (epl p n next) = (p, next, 0) := by
  have hl := epl_len p n next
  have e1 : epl p n next = (p ++ seqb n.toNat) ++ [iu8 n, iu8 next] := rfl
  have hs : (p ++ seqb n.toNat).length = p.length + n.toNat := by rw [List.length_append, seqb_len]
  have g2 : (epl p n next).getD ((epl p n next).length - 2) 0 = iu8 n := by
    rw [hl, show p.length + n.toNat + 2 - 2 = (p ++ seqb n.toNat).length + 0 by omega, e1, getD_behind]; rfl
  have g1 : (epl p n next).getD ((epl p n next).length - 1) 0 = iu8 next := by
    rw [hl, show p.length + n.toNat + 2 - 1 = (p ++ seqb n.toNat).length + 1 by omega, e1, getD_behind]; rfl
  have hn := iu8_small h0 (show n < 256 by omega)
  have hx := iu8_small q0 (show next < 256 by omega)
  have hn' : (iu8 n).toNat = n.toNat := by omega
  unfold eopenP
  rw [g2, g1, hn', if_neg (by omega)]
  have hok : epadOk (epl p n next) = true := by
    unfold epadOk
    rw [g2, hn', allB_iff]
    intro i hi
    rw [hl, show p.length + n.toNat + 2 - 2 - n.toNat + i = p.length + i by omega]
    have e2 : epl p n next = p ++ (seqb n.toNat ++ [iu8 n, iu8 next]) := by rw [e1, List.append_assoc]
    rw [e2, getD_behind]
    have e3 : (seqb n.toNat ++ [iu8 n, iu8 next]).getD i 0 = iu8 ((i : Int) + 1) := by
      rw [List.getD, List.getElem?_append_left (by rw [seqb_len]; exact hi)]
      unfold seqb
      rw [List.getElem?_map, List.getElem?_range hi]; rfl
    rw [e3]
    exact decide_eq_true rfl
  rw [if_pos hok, hl, show p.length + n.toNat + 2 - 2 - n.toNat = p.length by omega, e1, List.append_assoc, List.take_left, hx]
theorem eopen_seal {k : List UInt8} (hk : k.length = 36) (hkey : ∀ num, keyed (k.take 32) (enon k num) = true) (spi : UInt32) {num : UInt64} (hnum : num.toNat < 4294967296) (hn0 : num ≠ 0) {p : List UInt8} (hp : p.length ≤ 4096) {next : Int} (q0 : 0 ≤ next) (q1 : next ≤ 255) :
    ∃ B, eseal k spi num next p 0 = (B, 0) ∧ eopen k B num = (p, next, 0) ∧ B.length ≤ p.length + 30 ∧ 24 ≤ B.length := by
  have hpad : 0 ≤ epad p.length 0 ∧ epad p.length 0 ≤ 3 := by unfold epad; omega
  refine ⟨esealed k spi num (epl p (epad p.length 0) next), ?_, ?_, ?_, ?_⟩
  · unfold eseal
    rw [if_pos hk, if_neg (by rintro (h | h | h | h | h) <;> first | omega | exact hn0 h), if_neg (by omega)]
  · have hl := esealed_len k spi num (epl p (epad p.length 0) next)
    have b4 : (be spi.toUInt64 4).length = 4 := be_len _ _
    have b4' : (be num 4).length = 4 := be_len _ _
    have hs : spi.toUInt64.toNat < 256 ^ 4 := by rw [UInt32.toNat_toUInt64]; exact spi.toNat_lt
    have t1 : (esealed k spi num (epl p (epad p.length 0) next)).take 4 = be spi.toUInt64 4 := by
      unfold esealed
      have : ∀ X : List UInt8, (be spi.toUInt64 4 ++ be num 4 ++ X).take 4 = be spi.toUInt64 4 := by
        intro X
        rw [List.append_assoc, List.take_append_of_le_length (by omega), List.take_of_length_le (by omega)]
      exact this _
    have t2 : ((esealed k spi num (epl p (epad p.length 0) next)).drop 4).take 4 = be num 4 := by
      unfold esealed
      have : ∀ X : List UInt8, ((be spi.toUInt64 4 ++ be num 4 ++ X).drop 4).take 4 = be num 4 := by
        intro X
        rw [List.append_assoc, List.drop_append_of_le_length (by omega), List.drop_of_length_le (by omega), List.nil_append, List.take_append_of_le_length (by omega), List.take_of_length_le (by omega)]
      exact this _
    have t3 : (esealed k spi num (epl p (epad p.length 0) next)).drop 8 = cx (k.take 32) 1 (enon k num) (epl p (epad p.length 0) next) ++ atag (k.take 32) (enon k num) (edat spi num) (cx (k.take 32) 1 (enon k num) (epl p (epad p.length 0) next)) := by
      unfold esealed
      have hl8 : (be spi.toUInt64 4 ++ be num 4).length = 8 := by rw [List.length_append, b4, b4']
      have : ∀ X : List UInt8, (be spi.toUInt64 4 ++ be num 4 ++ X).drop 8 = X := by
        intro X
        rw [List.drop_append_of_le_length (by omega), List.drop_of_length_le (by omega), List.nil_append]
      exact this _
    unfold eopen
    rw [if_pos hk, if_neg (by omega), t1, t2, t3, nbr_be' (by omega) _ hs, nbr_be' (by omega) num hnum]
    have hsp : spi.toUInt64.toUInt32 = spi := by
      apply UInt32.toNat_inj.1
      have := spi.toNat_lt
      rw [UInt64.toNat_toUInt32, UInt32.toNat_toUInt64]; omega
    rw [if_pos rfl, hsp, aopen_seal (hkey num), if_pos rfl]
    exact eopenP_epl hpad.1 (by omega) q0 q1
  · rw [esealed_len, epl_len]; omega
  · rw [esealed_len]; omega
end Go.Proofs.YtofajgidjkjnpaaDoor.Pl

/- Plain: the law EspCarries. -/
namespace Go.Proofs.YtofajgidjkjnpaaDoor.Pl
open Go
theorem awake24 : law24_awake 18446744073709551616 = some ((true, ()), ()) := by kernel_rfl
theorem iu64_n {n : Nat} (h : n < 18446744073709551616) : (iu64 (n : Int)).toNat = n := by
  unfold iu64
  show (BitVec.ofInt 64 (n : Int)).toNat = _
  rw [BitVec.toNat_ofInt]; omega
theorem rdqL {α : Type} {f : α → α → Bool} (h : ∀ x, f x x = true) : ∀ l : List α, dqL f l l = true
  | [] => rfl
  | x :: l => by simp only [dqL, h x, rdqL h l, Bool.and_self]
theorem rdq : ∀ (t : Ty) (x : t.den), t.flat = true → dq t x x = true := by
  intro t
  induction t with
  | sl t ih => intro x h; simp [Ty.flat] at h
  | arr n t ih => intro x h; exact rdqL (fun y => ih y (by simpa [Ty.flat] using h)) x
  | pair a b iha ihb =>
    intro x h
    simp only [Ty.flat, Bool.and_eq_true] at h
    simp only [dq, iha _ h.1, ihb _ h.2, Bool.and_self]
  | unit => intro x _; rfl
  | _ => intro x _; simp only [dq, decide_true]
theorem two_of {L : List UInt8} (h : L.length = 2) : ∃ a b, L = [a, b] := by
  match L, h with
  | [a, b], _ => exact ⟨a, b, rfl⟩
theorem four_of {L : List UInt8} (h : L.length = 4) : ∃ a b c d, L = [a, b, c, d] := by
  match L, h with
  | [a, b, c, d], _ => exact ⟨a, b, c, d, rfl⟩
theorem four_more {L : List UInt8} (h : 4 ≤ L.length) : ∃ a b c d S, L = a :: b :: c :: d :: S := by
  match L, h with
  | a :: b :: c :: d :: S, _ => exact ⟨a, b, c, d, S, rfl⟩
/-- A list of choices, and where it stands. -/
def DOk (c : List UInt8 × (Int × Unit)) : Prop := 0 ≤ c.2.1 ∧ c.2.1 ≤ (c.1.length : Int) ∧ c.1.length ≤ 1000000000000000
theorem dnext_ok (N : Nat) {c : List UInt8 × (Int × Unit)} {n : Int} (h : DOk c) (hn : 0 < n) (hn2 : n ≤ 1000000) : ∃ v c', draw_Codes_Next N n c = some ((v, ()), (c', ())) ∧ 0 ≤ v ∧ v < n ∧ DOk c' := by
  obtain ⟨l, i, u⟩ := c
  obtain ⟨h1, h2, h3⟩ := h
  simp only at h1 h2 h3
  unfold draw_Codes_Next
  by_cases hlt : (l.length : Int) ≤ i
  · rw [dpos hlt]
    exact ⟨0, _, rfl, by omega, hn, h1, h2, h3⟩
  · rw [dneg hlt]
    have e1 : w64 (i + 1) = i + 1 := w64_of (by omega) (by omega)
    have e2 : w64 (i + 1 - 1) = i := by rw [w64_of (by omega) (by omega)]; omega
    simp only [cond_false, e1, e2]
    rw [inR_of h1 (by omega), cond_true]
    have hb := (l.getD i.toNat 0).toNat_lt
    generalize (l.getD i.toNat 0).toNat = b at *
    have hm : (b : Int) * n ≤ 255 * n := Int.mul_le_mul_of_nonneg_right (by omega) (by omega)
    have hm0 : 0 ≤ (b : Int) * n := Int.mul_nonneg (by omega) (by omega)
    have e3 : w64 ((w64 ((b : Int) * n)).tdiv 256) = (b : Int) * n / 256 := by
      rw [w64_of (show -9223372036854775808 ≤ (b : Int) * n by omega) (by omega), Int.tdiv_eq_ediv_of_nonneg hm0, w64_of (by omega) (by omega)]
    rw [e3]
    refine ⟨_, _, rfl, by omega, by omega, ?_, ?_, h3⟩
    · show 0 ≤ i + 1; omega
    · show i + 1 ≤ (l.length : Int); omega
theorem dnew_ok (N : Nat) (l : List UInt8) {m : Int} (h0 : 0 ≤ m) (hm : m ≤ 1000000) (hl : l.length ≤ 9223372036854775807) : ∃ c, draw_New N l m = some ((), (c, ())) ∧ DOk c := by
  unfold draw_New
  have key : ∀ q : Int, 0 ≤ q → q ≤ m → q ≤ (l.length : Int) → ∃ c, (bif decide (0 ≤ (0 : Int)) && decide ((0 : Int) ≤ q) && decide (q ≤ (l.length : Int)) && true then
    bif room (0 + (cut l 0 q.toNat).length) 1 then (some ((()), (((cut l 0 q.toNat), (0 : Int), ()), ())) : Option draw_New_R) else none else none) = some ((), (c, ())) ∧ DOk c := by
    intro q q0 q1 q2
    have hc : (cut l 0 q.toNat).length ≤ 1000000 := by simp [cut]; omega
    simp (disch := omega) only [dpos, dneg, w64_of, inR_of, room_of, tmod_of, cond_true, cond_false, Bool.and_self, Bool.and_true, Bool.true_and, Bool.and_false, Bool.false_and, Bool.not_true, Bool.not_false, Option.bind_some, List.length_cons, List.length_nil, Nat.zero_add]
    exact ⟨_, rfl, by simp, by simp, by simp only; omega⟩
  by_cases hlt : m < (l.length : Int)
  · simp only [dpos hlt, cond_true]
    exact key m h0 (by omega) (by omega)
  · simp only [dneg hlt, cond_false]
    exact key (l.length : Int) (by omega) (by omega) (by omega)
section
variable (N : Nat) (hN : 4611686018427387904 ≤ N)
include hN
theorem lb6 (p : Pkt) {x : List UInt8} (hx : x.length ≤ 1000) :
    lookup_Build_2 N true 40 p x = some ((0, ()), ([96, 0, 0, 0] ++ (be (iu64 (x.length : Int)) 2 ++ ([iu8 p.2.2.1, 64] ++ (be p.1.2.1 8 ++ (be p.1.2.2.1 8 ++ (be p.2.1.2.1 8 ++ (be p.2.1.2.2.1 8 ++ x)))))), ())) := by
  unfold lookup_Build_2
  have e : w64 (40 + (x.length : Int)) = 40 + (x.length : Int) := w64_of (by omega) (by omega)
  rw [e, dneg (show ¬ (4096 : Int) < 40 + (x.length : Int) by omega), cond_false]
  unfold lookup_Build_3 lookup_Build_5
  simp only [cond_true]
  have p1 : wire_Put N (iu64 (x.length : Int)) 2 [96, 0, 0, 0] = some ((), ([96, 0, 0, 0] ++ be (iu64 (x.length : Int)) 2, ())) := wire_put N (by omega) (by omega) (by simp) (by omega)
  rw [p1]
  simp only [Option.bind_some]
  have l0 : ([96, 0, 0, 0] ++ be (iu64 (x.length : Int)) 2 : List UInt8).length = 6 := by rw [List.length_append, be_len]; rfl
  have l1 : (([96, 0, 0, 0] ++ be (iu64 (x.length : Int)) 2 : List UInt8) ++ [iu8 p.2.2.1, 64]).length = 8 := by rw [List.length_append, l0]; rfl
  have hr : room (([96, 0, 0, 0] ++ be (iu64 (x.length : Int)) 2 : List UInt8).length + ([iu8 p.2.2.1, 64] : List UInt8).length) 1 = true := room_of (by rw [l0]; simp only [List.length_cons, List.length_nil]; omega)
  rw [hr]
  simp only [cond_true]
  have assoc : ∀ (B Q a b c d y : List UInt8), ([96, 0, 0, 0] ++ B ++ Q) ++ a ++ b ++ c ++ d ++ y = [96, 0, 0, 0] ++ (B ++ (Q ++ (a ++ (b ++ (c ++ (d ++ y)))))) := by intro B Q a b c d y; simp only [List.append_assoc]
  rw [← assoc]
  generalize ([96, 0, 0, 0] ++ be (iu64 (x.length : Int)) 2 : List UInt8) ++ [iu8 p.2.2.1, 64] = C at *
  have l3 : (C ++ be p.1.2.1 8 ++ be p.1.2.2.1 8 ++ be p.2.1.2.1 8 ++ be p.2.1.2.2.1 8).length = 40 := by simp only [List.length_append, be_len, l1]
  have l2 : (C ++ be p.1.2.1 8 ++ be p.1.2.2.1 8).length = 24 := by simp only [List.length_append, be_len, l1]
  have st : ∀ (i : Nat) (b : List UInt8) (a : Ad), i < 2 → b.length ≤ 1000 → ([p.1, p.2.1] : List Ad).getD i (0, 0, 0, ()) = a → lookup_Build_s7 N 2 (i : Int) x b [p.1, p.2.1] = some (.go ((2, ((i + 1 : Nat) : Int), ()), (x, b ++ be a.2.1 8 ++ be a.2.2.1 8, [p.1, p.2.1], ()))) := by
    intro i b a hi hb ha
    unfold lookup_Build_s7
    have q1 : wire_Put N a.2.1 8 b = some ((), (b ++ be a.2.1 8, ())) := wire_put N (by omega) (by omega) (by omega) (by omega)
    have q2 : wire_Put N a.2.2.1 8 (b ++ be a.2.1 8) = some ((), (b ++ be a.2.1 8 ++ be a.2.2.1 8, ())) := wire_put N (by omega) (by omega) (by rw [List.length_append, be_len]; omega) (by omega)
    have hr : inR (i : Int) ([p.1, p.2.1] : List Ad).length = true := inR_of (by omega) (by show (i : Int) < 2; omega)
    have hw : w64 ((i : Int) + 1) = ((i + 1 : Nat) : Int) := by rw [w64_of (by omega) (by omega)]; rfl
    rw [dpos (show ((i : Nat) : Int) < 2 by omega), hr]
    simp only [cond_true, Int.toNat_natCast, ha, q1, q2, Option.bind_some, hw]
  have lp : lookup_Build_6 N 2 0 x C [p.1, p.2.1] = lookup_Build_8 N x (C ++ be p.1.2.1 8 ++ be p.1.2.2.1 8 ++ be p.2.1.2.1 8 ++ be p.2.1.2.2.1 8) := by
    obtain ⟨M, rfl⟩ : ∃ M, N = M + 3 := ⟨N - 3, by omega⟩
    unfold lookup_Build_6
    have s0 := st 0 C p.1 (by omega) (by omega) rfl
    have s1 := st 1 (C ++ be p.1.2.1 8 ++ be p.1.2.2.1 8) p.2.1 (by omega) (by omega) rfl
    rw [loopK_succ]
    show Option.bind (lookup_Build_s7 (M + 3) 2 ((0 : Nat) : Int) x C [p.1, p.2.1]) _ = _
    rw [s0, Option.bind_some]
    show loopK (M + 2) _ _ _ = _
    rw [loopK_succ]
    show Option.bind (lookup_Build_s7 (M + 3) 2 ((1 : Nat) : Int) x _ [p.1, p.2.1]) _ = _
    rw [s1, Option.bind_some]
    show loopK (M + 1) _ _ _ = _
    rw [loopK_succ]
    rfl
  refine lp.trans ?_
  unfold lookup_Build_8
  rw [room_of (by rw [l3]; omega)]; rfl
theorem lb4 (p : Pkt) {x : List UInt8} (hx : x.length ≤ 1000) : ∃ l1 l0 a3 a2 a1 a0 b3 b2 b1 b0 v, be (iu64 (20 + (x.length : Int))) 2 = [l1, l0] ∧ be p.1.2.2.1 4 = [a3, a2, a1, a0] ∧ be p.2.1.2.2.1 4 = [b3, b2, b1, b0] ∧
    wire_Checksum N (hd4 l1 l0 (iu8 p.2.2.1) (iu8 (shrI v 8)) (iu8 v) a3 a2 a1 a0 b3 b2 b1 b0) = some ((0, ()), ()) ∧
    lookup_Build_2 N false 20 p x = some ((0, ()), (hd4 l1 l0 (iu8 p.2.2.1) (iu8 (shrI v 8)) (iu8 v) a3 a2 a1 a0 b3 b2 b1 b0 ++ x, ())) := by
  obtain ⟨l1, l0, eL⟩ := two_of (be_len (iu64 (20 + (x.length : Int))) 2)
  obtain ⟨a3, a2, a1, a0, eA⟩ := four_of (be_len p.1.2.2.1 4)
  obtain ⟨b3, b2, b1, b0, eB⟩ := four_of (be_len p.2.1.2.2.1 4)
  obtain ⟨v, c1, c2⟩ := sum4 N hN l1 l0 (iu8 p.2.2.1) a3 a2 a1 a0 b3 b2 b1 b0
  refine ⟨l1, l0, a3, a2, a1, a0, b3, b2, b1, b0, v, eL, eA, eB, c2, ?_⟩
  unfold lookup_Build_2
  have e : w64 (20 + (x.length : Int)) = 20 + (x.length : Int) := w64_of (by omega) (by omega)
  rw [e, dneg (show ¬ (4096 : Int) < 20 + (x.length : Int) by omega), cond_false]
  unfold lookup_Build_3 lookup_Build_9
  simp only [cond_false]
  rw [e]
  have p1 : wire_Put N (iu64 (20 + (x.length : Int))) 2 [69, 0] = some ((), ([69, 0] ++ be (iu64 (20 + (x.length : Int))) 2, ())) := wire_put N (by omega) (by omega) (by simp) (by omega)
  rw [p1, eL]
  simp only [Option.bind_some]
  rw [room_of (by simp only [List.length_append, List.length_cons, List.length_nil]; omega), cond_true]
  have q1 : wire_Put N p.1.2.2.1 4 ([69, 0] ++ [l1, l0] ++ [0, 0, 0, 0, 64, iu8 p.2.2.1, 0, 0]) = some ((), ([69, 0] ++ [l1, l0] ++ [0, 0, 0, 0, 64, iu8 p.2.2.1, 0, 0] ++ be p.1.2.2.1 4, ())) := wire_put N (by omega) (by omega) (by simp) (by omega)
  rw [q1, eA]
  simp only [Option.bind_some]
  have q2 : wire_Put N p.2.1.2.2.1 4 ([69, 0] ++ [l1, l0] ++ [0, 0, 0, 0, 64, iu8 p.2.2.1, 0, 0] ++ [a3, a2, a1, a0]) = some ((), ([69, 0] ++ [l1, l0] ++ [0, 0, 0, 0, 64, iu8 p.2.2.1, 0, 0] ++ [a3, a2, a1, a0] ++ be p.2.1.2.2.1 4, ())) := wire_put N (by omega) (by omega) (by simp) (by omega)
  rw [q2, eB]
  simp only [Option.bind_some]
  have hD : ([69, 0] ++ [l1, l0] ++ [0, 0, 0, 0, 64, iu8 p.2.2.1, 0, 0] ++ [a3, a2, a1, a0] ++ [b3, b2, b1, b0] : List UInt8) = hd4 l1 l0 (iu8 p.2.2.1) 0 0 a3 a2 a1 a0 b3 b2 b1 b0 := rfl
  rw [hD, c1]
  simp only [Option.bind_some]
  rw [show inR (10 : Int) (hd4 l1 l0 (iu8 p.2.2.1) 0 0 a3 a2 a1 a0 b3 b2 b1 b0).length = true from rfl, cond_true,
    show inR (11 : Int) ((hd4 l1 l0 (iu8 p.2.2.1) 0 0 a3 a2 a1 a0 b3 b2 b1 b0).set 10 (iu8 (shrI v 8))).length = true from rfl, cond_true]
  have hl : (((hd4 l1 l0 (iu8 p.2.2.1) 0 0 a3 a2 a1 a0 b3 b2 b1 b0).set 10 (iu8 (shrI v 8))).set 11 (iu8 v)).length = 20 := rfl
  rw [room_of (by rw [hl]; omega), cond_true]
  rfl
/-- The ports of a packet that carries one. -/
theorem ports_icmp {b P X S : List UInt8} (hb : b = P ++ (X ++ S)) {hd : Nat} (hP : P.length = hd) (hX : X.length = 2) (hl : b.length ≤ 1000000) (a c : Ad) :
    lookup_cursor_ports N (b, ()) ((a, c, 1, 0, 0, ()), 0, false, false, (hd : Int), ()) = some ((), (((a, c, 1, ((nbr X).toNat : Int), -1, ()), 0, false, false, (hd : Int), ()), ())) := by
  have hlen : b.length = hd + (2 + S.length) := by rw [hb]; simp only [List.length_append, hP, hX]
  have e1 := int_at N hN hb hP hX (by omega) (by omega) hl
  have e1' : lookup_cursor_int N (b, ()) (hd : Int) 2 = _ := e1
  unfold lookup_cursor_ports
  have hw : w64 ((b.length : Int) - (hd : Int)) = (b.length : Int) - (hd : Int) := w64_of (by omega) (by omega)
  simp only [decide_true, Bool.not_true, cond_false, hw, e1', Option.bind_some, dpos (show (2 : Int) ≤ (b.length : Int) - (hd : Int) by omega), cond_true]
  rfl
/-- A kind of packet that is built. -/
def Kd (q : Int) : Prop := q = 6 ∨ q = 17 ∨ q = 1 ∨ q = 50
theorem ports_any {P x : List UInt8} {hd : Nat} (hP : P.length = hd) (hx : 4 ≤ x.length) (hl : (P ++ x).length ≤ 1000000) (a c : Ad) {q : Int} (hq : Kd q) :
    ∃ s t, lookup_cursor_ports N (P ++ x, ()) ((a, c, q, 0, 0, ()), 0, false, false, (hd : Int), ()) = some ((), (((a, c, q, s, t, ()), 0, false, false, (hd : Int), ()), ())) := by
  obtain ⟨x0, x1, x2, x3, S, rfl⟩ := four_more hx
  rcases hq with rfl | rfl | rfl | rfl
  · exact ⟨_, _, ports_tcp N hN (X := [x0, x1]) (Y := [x2, x3]) (S := S) rfl hP rfl rfl hl a c (.inl rfl)⟩
  · exact ⟨_, _, ports_tcp N hN (X := [x0, x1]) (Y := [x2, x3]) (S := S) rfl hP rfl rfl hl a c (.inr rfl)⟩
  · exact ⟨_, _, ports_icmp N hN (X := [x0, x1]) (S := x2 :: x3 :: S) rfl hP rfl hl a c⟩
  · exact ⟨_, _, ports_non N a c (hd : Int) (by decide) (by decide) (by decide) (by decide)⟩
/-- Two addresses of one family. -/
structure Two (a c : Ad) : Prop where
  v1 : lval a = true
  v2 : lval c = true
  fam : a.1 = c.1
def hd_ (a : Ad) : Int := if a.1 = 6 then 40 else 20
/-- What is built is seen. -/
theorem bsee {a c : Ad} (h : Two a c) {q : Int} (hq : Kd q) {x : List UInt8} (h4 : 4 ≤ x.length) (hx : x.length ≤ 900) : ∃ r s t, (∀ sp dp : Int, (bif decide (a.1 = 6) then lookup_Build_2 N (decide (a.1 = 6)) 40 (a, c, q, sp, dp, ()) x else lookup_Build_2 N (decide (a.1 = 6)) 20 (a, c, q, sp, dp, ()) x) = some ((0, ()), (r, ()))) ∧
    lookup_See N r = some ((((a, c, q, s, t, ()), 0, false, false, hd_ a, ()), 0, ()), ()) ∧ cut r (hd_ a).toNat r.length = x ∧ (r.length : Int) = hd_ a + x.length := by
  have q0 : 0 ≤ q ∧ q ≤ 255 := by unfold Kd at hq; omega
  have q44 : q ≠ 44 := by unfold Kd at hq; omega
  have hq8 : ((iu8 q).toNat : Int) = q := by rw [iu8_mod]; omega
  by_cases h6 : a.1 = 6
  · have h62 : c.1 = 6 := by have := h.fam; omega
    have hh : hd_ a = 40 := if_pos h6
    have hL : (nbr (be (iu64 (x.length : Int)) 2)).toNat = x.length := by
      have e := iu64_n (n := x.length) (by omega)
      rw [nbr_be' (by omega) _ (by rw [e]; omega), e]
    have n8 : ∀ v : UInt64, nbr (be v 8) = v := fun v => nbr_be' (by omega) v v.toNat_lt
    have ea : ((6, nbr (be a.2.1 8), nbr (be a.2.2.1 8), ()) : Ad) = a := by rw [n8, n8, ← h6]
    have ec : ((6, nbr (be c.2.1 8), nbr (be c.2.2.1 8), ()) : Ad) = c := by rw [n8, n8, ← h62]
    obtain ⟨s, t, hp⟩ := ports_any N hN (P := [96, 0, 0, 0] ++ (be (iu64 (x.length : Int)) 2 ++ ([iu8 q, 64] ++ (be a.2.1 8 ++ (be a.2.2.1 8 ++ (be c.2.1 8 ++ be c.2.2.1 8)))))) (x := x) (hd := 40) (by simp only [List.length_append, be_len, List.length_cons, List.length_nil]) h4 (by simp only [List.length_append, be_len, List.length_cons, List.length_nil]; omega) a c hq
    simp only [List.append_assoc] at hp
    have hs := see6 N hN (L := be (iu64 (x.length : Int)) 2) (A := be a.2.1 8) (B := be a.2.2.1 8) (C := be c.2.1 8) (D := be c.2.2.1 8) (x := x) (q := iu8 q) (be_len _ _) (be_len _ _) (be_len _ _) (be_len _ _) (be_len _ _) (by omega) hL (fun e => q44 (by rw [← hq8, e]; rfl)) (k := (a, c, q, s, t, ())) (by
      rw [ea, ec, hq8]
      exact hp)
    refine ⟨_, s, t, fun sp dp => ?_, by rw [hh]; exact hs, ?_, ?_⟩
    · rw [dpos h6, cond_true]
      exact lb6 N hN (a, c, q, sp, dp, ()) (by omega)
    · rw [hh]
      have hl : ([96, 0, 0, 0] ++ (be (iu64 (x.length : Int)) 2 ++ ([iu8 q, 64] ++ (be a.2.1 8 ++ (be a.2.2.1 8 ++ (be c.2.1 8 ++ be c.2.2.1 8))))) : List UInt8).length = 40 := by simp only [List.length_append, be_len, List.length_cons, List.length_nil]
      have he : ([96, 0, 0, 0] ++ (be (iu64 (x.length : Int)) 2 ++ ([iu8 q, 64] ++ (be a.2.1 8 ++ (be a.2.2.1 8 ++ (be c.2.1 8 ++ (be c.2.2.1 8 ++ x)))))) : List UInt8) = ([96, 0, 0, 0] ++ (be (iu64 (x.length : Int)) 2 ++ ([iu8 q, 64] ++ (be a.2.1 8 ++ (be a.2.2.1 8 ++ (be c.2.1 8 ++ be c.2.2.1 8)))))) ++ x := by simp only [List.append_assoc]
      show cut ([96, 0, 0, 0] ++ (be (iu64 (x.length : Int)) 2 ++ ([iu8 q, 64] ++ (be a.2.1 8 ++ (be a.2.2.1 8 ++ (be c.2.1 8 ++ (be c.2.2.1 8 ++ x))))))) 40 _ = x
      unfold cut
      rw [List.take_length, he, List.drop_append_of_le_length (by omega), List.drop_of_length_le (by omega), List.nil_append]
    · rw [hh]
      simp only [List.length_append, be_len, List.length_cons, List.length_nil]
      omega
  · have h41 : a.1 = 4 ∧ a.2.1 = 0 ∧ a.2.2.1 < 4294967296 := by
      have := h.v1
      unfold lval at this
      rw [dneg h6, Bool.false_or, Bool.and_eq_true, Bool.and_eq_true, decide_eq_true_eq, decide_eq_true_eq, decide_eq_true_eq] at this
      exact this
    have h62 : ¬ c.1 = 6 := by have := h.fam; omega
    have h42 : c.1 = 4 ∧ c.2.1 = 0 ∧ c.2.2.1 < 4294967296 := by
      have := h.v2
      unfold lval at this
      rw [dneg h62, Bool.false_or, Bool.and_eq_true, Bool.and_eq_true, decide_eq_true_eq, decide_eq_true_eq, decide_eq_true_eq] at this
      exact this
    have hh : hd_ a = 20 := if_neg h6
    obtain ⟨l1, l0, a3, a2, a1, a0, b3, b2, b1, b0, v, eL, eA, eB, hc, hbuild⟩ := lb4 N hN (a, c, q, -1, -1, ()) (x := x) (by omega)
    have hL : (nbr [l1, l0]).toNat = 20 + x.length := by
      have e := iu64_n (n := 20 + x.length) (by omega)
      have e' : (iu64 (20 + (x.length : Int))).toNat = 20 + x.length := e
      rw [← eL, nbr_be' (by omega) _ (by rw [e']; omega), e']
    have n4 : ∀ v : UInt64, v < 4294967296 → nbr (be v 4) = v := fun v hv => nbr_be' (by omega) v (UInt64.lt_iff_toNat_lt.1 hv)
    have ea : ((4, 0, nbr [a3, a2, a1, a0], ()) : Ad) = a := by rw [← eA, n4 _ h41.2.2, ← h41.1, ← h41.2.1]
    have ec : ((4, 0, nbr [b3, b2, b1, b0], ()) : Ad) = c := by rw [← eB, n4 _ h42.2.2, ← h42.1, ← h42.2.1]
    obtain ⟨s, t, hp⟩ := ports_any N hN (P := hd4 l1 l0 (iu8 q) (iu8 (shrI v 8)) (iu8 v) a3 a2 a1 a0 b3 b2 b1 b0) (x := x) (hd := 20) rfl h4 (by rw [List.length_append]; show 20 + x.length ≤ 1000000; omega) a c hq
    have hs := see4 N hN (l1 := l1) (l0 := l0) (q := iu8 q) (x := x) (by omega) hL (k := (a, c, q, s, t, ())) hc (by
      rw [ea, ec, hq8]
      exact hp)
    refine ⟨_, s, t, fun sp dp => ?_, by rw [hh]; exact hs, ?_, ?_⟩
    · rw [dneg h6, cond_false]
      exact hbuild
    · rw [hh]
      unfold cut
      rw [List.take_length]
      rfl
    · rw [hh, List.length_append]
      show ((20 + x.length : Nat) : Int) = _
      omega
/-- The program's builder, on a packet of one of the kinds. -/
theorem bbuild {a c : Ad} (h : Two a c) {q sp dp : Int} (hq : Kd q) (h1 : -1 ≤ sp ∧ sp ≤ 65535) (h2 : -1 ≤ dp ∧ dp ≤ 65535) {d x : List UInt8} (hd : d.length ≤ 1000) (hx : trn (tcpB (a, c, q, sp, dp, ())) sp dp d = some x) :
    lookup_Build N (a, c, q, sp, dp, ()) d = bif decide (a.1 = 6) then lookup_Build_2 N (decide (a.1 = 6)) 40 (a, c, q, sp, dp, ()) x else lookup_Build_2 N (decide (a.1 = 6)) 20 (a, c, q, sp, dp, ()) x := by
  have q0 : 0 ≤ q ∧ q ≤ 255 ∧ q ≠ 44 := by unfold Kd at hq; omega
  have s1 : prt sp = true := by unfold prt; rw [dpos h1.1, dpos h1.2]; rfl
  have s2 : prt dp = true := by unfold prt; rw [dpos h2.1, dpos h2.2]; rfl
  have core : lookup_Build_1 N d (decide (a.1 = 6)) (a, c, q, sp, dp, ()) = bif decide (a.1 = 6) then lookup_Build_2 N (decide (a.1 = 6)) 40 (a, c, q, sp, dp, ()) x else lookup_Build_2 N (decide (a.1 = 6)) 20 (a, c, q, sp, dp, ()) x := by
    unfold lookup_Build_1
    rw [transport_ok N hN _ (by omega), hx]
    rfl
  unfold lookup_Build
  simp only [svalid_ok, h.v1, h.v2, Option.bind_some, Bool.not_true, cond_false, dpos h.fam, dneg (show ¬ q < 0 by omega), dneg (show ¬ 255 < q by omega), dneg q0.2.2, lport_ok, s1, s2]
  rw [core]
  generalize (bif decide (a.1 = 6) then lookup_Build_2 N (decide (a.1 = 6)) 40 (a, c, q, sp, dp, ()) x else lookup_Build_2 N (decide (a.1 = 6)) 20 (a, c, q, sp, dp, ()) x) = Z
  cases decide (a.1 = 6) <;> rfl
end
theorem trn_plain_ {a c : Ad} {q : Int} (x : List UInt8) : trn (tcpB (a, c, q, -1, -1, ())) (-1) (-1) x = some x := by
  unfold trn
  split
  · rw [if_pos ⟨rfl, rfl⟩]
  · rfl
end Go.Proofs.YtofajgidjkjnpaaDoor.Pl

/- Plain: the law EspCarries, joined. -/
namespace Go.Proofs.YtofajgidjkjnpaaDoor.Pl
open Go
theorem daddr_ok (N : Nat) {s x : Int} (hs : 0 ≤ s ∧ s ≤ 3) (hx : 0 ≤ x ∧ x < 256) (six : Bool) : ∃ a, draw_address N s x six = some ((a, ()), ()) ∧ lval a = true ∧ a.1 = (bif six then 6 else 4) := by
  cases six
  · refine ⟨_, rfl, ?_, rfl⟩
    obtain ⟨n, rfl⟩ := Int.eq_ofNat_of_zero_le hs.1
    have h1 : shlI (n : Int) 8 = (n : Int) * 256 := shlI8 (by omega)
    have h2 : w64 ((167772160 : Int) + (n : Int) * 256) = 167772160 + (n : Int) * 256 := w64_of (by omega) (by omega)
    have h3 : w64 (167772160 + (n : Int) * 256 + x) = ((167772160 + n * 256 + x.toNat : Nat) : Int) := by rw [w64_of (by omega) (by omega)]; omega
    have h4 := iu64_n (n := 167772160 + n * 256 + x.toNat) (by omega)
    unfold lval
    rw [h1, h2, h3, dpos (show iu64 ((167772160 + n * 256 + x.toNat : Nat) : Int) < 4294967296 from UInt64.lt_iff_toNat_lt.2 (by rw [h4]; show 167772160 + n * 256 + x.toNat < 4294967296; omega))]
    rfl
  · exact ⟨_, rfl, rfl, rfl⟩
/-- A packet that is drawn. -/
theorem dpk (N : Nat) {s : Int} (hs : 0 ≤ s ∧ s ≤ 1) {c : List UInt8 × (Int × Unit)} (h : DOk c) : ∃ a b q sp dp c', draw_Codes_Packet N s c = some (((a, b, q, sp, dp, ()), ()), (c', ())) ∧ DOk c' ∧ Two a b ∧ Kd q ∧ (-1 ≤ sp ∧ sp ≤ 65535) ∧ (-1 ≤ dp ∧ dp ≤ 65535) := by
  have p2 : ∀ (t : Bool) {c : List UInt8 × (Int × Unit)} (x : Pkt) {a b : Ad} {q sp dp : Int}, DOk c → Two a b → Kd q → (-1 ≤ sp ∧ sp ≤ 65535) → (-1 ≤ dp ∧ dp ≤ 65535) → ∃ a' b' q' sp' dp' c', draw_Codes_Packet_2 N t c x (a, b, q, sp, dp, ()) = some (((a', b', q', sp', dp', ()), ()), (c', ())) ∧ DOk c' ∧ Two a' b' ∧ Kd q' ∧ (-1 ≤ sp' ∧ sp' ≤ 65535) ∧ (-1 ≤ dp' ∧ dp' ≤ 65535) := by
    intro t c x a b q sp dp h1 h2 h3 h4 h5
    cases t
    · exact ⟨a, b, q, sp, dp, c, rfl, h1, h2, h3, h4, h5⟩
    · exact ⟨a, b, q, -1, -1, c, rfl, h1, h2, h3, ⟨by omega, by omega⟩, ⟨by omega, by omega⟩⟩
  have p1 : ∀ (six : Bool) {to : Int} {c : List UInt8 × (Int × Unit)} (x : Pkt), (0 ≤ to ∧ to ≤ 3) → DOk c → ∃ a b q sp dp c', draw_Codes_Packet_1 N s six to c x = some (((a, b, q, sp, dp, ()), ()), (c', ())) ∧ DOk c' ∧ Two a b ∧ Kd q ∧ (-1 ≤ sp ∧ sp ≤ 65535) ∧ (-1 ≤ dp ∧ dp ≤ 65535) := by
    intro six to c x ht h
    unfold draw_Codes_Packet_1
    obtain ⟨v1, c1, e1, u1, w1, k1⟩ := dnext_ok N (n := 256) h (by omega) (by omega)
    obtain ⟨a1, e2, l1, f1⟩ := daddr_ok N (s := s) (x := v1) (by omega) ⟨u1, w1⟩ six
    obtain ⟨v3, c3, e3, u3, w3, k3⟩ := dnext_ok N (n := 256) k1 (by omega) (by omega)
    obtain ⟨a4, e4, l4, f4⟩ := daddr_ok N (s := to) (x := v3) ht ⟨u3, w3⟩ six
    obtain ⟨v5, c5, e5, q5, q5', k5⟩ := dnext_ok N (n := 4) k3 (by omega) (by omega)
    obtain ⟨v6, c6, e6, u6, w6, k6⟩ := dnext_ok N (n := 6) k5 (by omega) (by omega)
    obtain ⟨v7, c7, e7, u7, w7, k7⟩ := dnext_ok N (n := 6) k6 (by omega) (by omega)
    obtain ⟨v8, c8, e8, _, _, k8⟩ := dnext_ok N (n := 4) k7 (by omega) (by omega)
    simp only [e1, e2, e3, e4, e5, e6, e7, e8, Option.bind_some]
    rw [inR_of q5 (by simp only [List.length_cons, List.length_nil]; omega), cond_true]
    have hy : Kd ([(6 : Int), 17, 1, 50].getD v5.toNat 0) := by
      have : v5.toNat = 0 ∨ v5.toNat = 1 ∨ v5.toNat = 2 ∨ v5.toNat = 3 := by omega
      unfold Kd
      rcases this with h | h | h | h <;> rw [h] <;> decide
    generalize [(6 : Int), 17, 1, 50].getD v5.toNat 0 = y at hy
    have two : Two a1 a4 := ⟨l1, l4, f1.trans f4.symm⟩
    have s6 : -1 ≤ w64 (v6 * 20) ∧ w64 (v6 * 20) ≤ 65535 := by rw [w64_of (by omega) (by omega)]; omega
    have s7 : -1 ≤ w64 (v7 * 20) ∧ w64 (v7 * 20) ≤ 65535 := by rw [w64_of (by omega) (by omega)]; omega
    have r := fun t => p2 t x k8 two hy s6 s7
    cases decide (v8 = 3) <;> cases decide (y = 1) <;> simp only [cond_true, cond_false] <;> exact r _
  unfold draw_Codes_Packet
  obtain ⟨v1, c1, e1, _, _, k1⟩ := dnext_ok N (n := 10) h (by omega) (by omega)
  obtain ⟨v2, c2, e2, _, _, k2⟩ := dnext_ok N (n := 8) k1 (by omega) (by omega)
  have hw : w64 (1 - s) = 1 - s := w64_of (by omega) (by omega)
  simp only [e1, e2, Option.bind_some, hw]
  cases decide (v2 = 7)
  · exact p1 _ _ (by omega) k2
  · exact p1 _ _ (by omega) k2
section
variable (N : Nat) (hN : 4611686018427387904 ≤ N)
include hN
theorem rsee {b : List UInt8} (hb : b.length ≤ 100000) {v : Sn × Int × Unit} (h : lookup_See N b = some ((v.1, v.2.1, ()), ())) : ref22_See N b = some ((v.1, v.2.1, ()), ()) := by
  obtain ⟨s, e, e1, e2, _⟩ := see_eq N hN (b := b) (by omega)
  rw [h] at e1
  simp only [Option.some.injEq, Prod.mk.injEq, and_true] at e1
  rw [e2, e1.1, e1.2]
/-- Transport mode, there and back. -/
theorem car_2 {k : List UInt8} (hk : k.length = 36) {a c : Ad} (h : Two a c) {q : Int} (hq : Kd q) {x r : List UInt8} {s t : Int} (h4 : 4 ≤ x.length) (hx : x.length ≤ 800)
    (hr : ∀ sp dp : Int, (bif decide (a.1 = 6) then lookup_Build_2 N (decide (a.1 = 6)) 40 (a, c, q, sp, dp, ()) x else lookup_Build_2 N (decide (a.1 = 6)) 20 (a, c, q, sp, dp, ()) x) = some ((0, ()), (r, ())))
    (hs : lookup_See N r = some ((((a, c, q, s, t, ()), 0, false, false, hd_ a, ()), 0, ()), ())) (hc : cut r (hd_ a).toNat r.length = x) (hl : (r.length : Int) = hd_ a + x.length) :
    law24_EspCarries_2 N k r ((a, c, q, s, t, ()), 0, false, false, hd_ a, ()) = some ((true, ()), ()) := by
  have hh : hd_ a = 40 ∨ hd_ a = 20 := by unfold hd_; split <;> omega
  have hkey : ∀ num, keyed (k.take 32) (enon k num) = true := by
    intro num
    unfold keyed enon
    rw [dpos (by rw [List.length_take]; omega), dpos (by rw [List.length_append, List.length_drop, be_len]; omega)]; rfl
  have hq0 : 0 ≤ q ∧ q ≤ 255 := by unfold Kd at hq; omega
  obtain ⟨B, b1, b2, b3, b4⟩ := eopen_seal hk hkey 3 (num := 4) (by decide) (by decide) (p := x) (by omega) hq0.1 hq0.2
  obtain ⟨r2, s2, t2, g1, g2, g3, g4⟩ := bsee N hN h (q := 50) (.inr (.inr (.inr rfl))) (x := B) (by omega) (by omega)
  have hbB := bbuild N hN h (q := 50) (sp := -1) (dp := -1) (.inr (.inr (.inr rfl))) ⟨by omega, by omega⟩ ⟨by omega, by omega⟩ (d := B) (by omega) (trn_plain_ B)
  rw [g1] at hbB
  have hbx := bbuild N hN h (q := q) (sp := -1) (dp := -1) hq ⟨by omega, by omega⟩ ⟨by omega, by omega⟩ (d := x) (by omega) (trn_plain_ x)
  rw [hr] at hbx
  have plain : ∀ {r' : List UInt8} {q' s' t' : Int}, lookup_See N r' = some ((((a, c, q', s', t', ()), 0, false, false, hd_ a, ()), 0, ()), ()) → esp_plain N r' = some ((((a, c, q', s', t', ()), 0, false, false, hd_ a, ()), 0, ()), ()) := by
    intro r' q' s' t' hs'
    unfold esp_plain
    rw [hs', Option.bind_some]
    simp only [decide_true, Bool.not_true, cond_false]
    unfold esp_plain_1 esp_plain_2 hd_
    by_cases h6 : a.1 = 6
    · rw [dpos h6, if_pos h6]; rfl
    · rw [dneg h6, if_neg h6]; rfl
  have tr : esp_Transport N k 3 4 r = some ((0, ()), (r2, ())) := by
    unfold esp_Transport
    rw [plain hs, Option.bind_some]
    simp only [decide_true, Bool.not_true, cond_false, dpos (show 0 ≤ hd_ a by omega), dpos (show hd_ a ≤ (r.length : Int) by omega), dpos (Int.le_refl (r.length : Int)), Bool.and_self, cond_true, hc]
    unfold esp_wrap_esp_Transport_f1
    rw [eseal_ok N hN, b1]
    simp only [Option.bind_some, decide_true, Bool.not_true, cond_false]
    unfold esp_Transport_f1 esp_hidden
    simp only [Option.bind_some]
    rw [hbB]
    rfl
  have ut : esp_Untransport N k r2 4 = some ((0, ()), (r, ())) := by
    unfold esp_Untransport
    rw [plain g2, Option.bind_some]
    simp only [decide_true, Bool.not_true, cond_false, dpos (show 0 ≤ hd_ a by omega), dpos (show hd_ a ≤ (r2.length : Int) by omega), dpos (Int.le_refl (r2.length : Int)), Bool.and_self, cond_true, g3]
    rw [eopen_ok N hN k 4 (by omega), b2]
    unfold esp_hidden
    simp only [Option.bind_some, decide_true, Bool.not_true, cond_false]
    rw [hbx]
    rfl
  unfold law24_EspCarries_2
  rw [tr]
  simp only [Option.bind_some]
  rw [ut]
  simp only [Option.bind_some, decide_true, Bool.not_true, cond_false]
  unfold law24_EspCarries_3
  have rs1 := rsee N hN (b := r) (by omega) (v := (((a, c, q, s, t, ()), 0, false, false, hd_ a, ()), 0, ())) hs
  have rs2 := rsee N hN (b := r2) (by omega) (v := (((a, c, 50, s2, t2, ()), 0, false, false, hd_ a, ()), 0, ())) g2
  rw [cond_false, rs1, rs2]
  have d1 : dq (.pair .i64 (.pair .u64 (.pair .u64 .unit))) a a = true := rdq _ _ rfl
  have d2 : dq (.pair (.pair .i64 (.pair .u64 (.pair .u64 .unit))) (.pair (.pair .i64 (.pair .u64 (.pair .u64 .unit))) (.pair .i64 (.pair .i64 (.pair .i64 .unit))))) (a, c, q, s, t, ()) (a, c, q, s, t, ()) = true := rdq _ _ rfl
  simp only [Option.bind_some, decide_true, cond_true, d1, d2, dpos (show 0 ≤ hd_ a by omega), dpos (show hd_ a ≤ (r.length : Int) by omega), dpos (Int.le_refl (r.length : Int)), Bool.and_self, hc]
  rw [same24 N hN x (by omega)]
  rfl
end
end Go.Proofs.YtofajgidjkjnpaaDoor.Pl

/- Plain: the law EspCarries, the tunnel and the whole. -/
namespace Go.Proofs.YtofajgidjkjnpaaDoor.Pl
open Go
theorem trn_some {tcp : Bool} {s t : Int} {d : List UInt8} (h : 4 ≤ d.length) : ∃ x, trn tcp s t d = some x := by
  unfold trn
  split
  · split
    · exact ⟨_, rfl⟩
    · rw [if_neg (by omega)]; exact ⟨_, rfl⟩
  · exact ⟨_, rfl⟩
/-- What a drawn packet is. -/
structure Drawn (N : Nat) (w : List UInt8) (a c : Ad) (q s t : Int) (x : List UInt8) : Prop where
  two : Two a c
  kd : Kd q
  l4 : 4 ≤ x.length
  lx : x.length ≤ 204
  bd : ∀ sp dp : Int, (bif decide (a.1 = 6) then lookup_Build_2 N (decide (a.1 = 6)) 40 (a, c, q, sp, dp, ()) x else lookup_Build_2 N (decide (a.1 = 6)) 20 (a, c, q, sp, dp, ()) x) = some ((0, ()), (w, ()))
  see : lookup_See N w = some ((((a, c, q, s, t, ()), 0, false, false, hd_ a, ()), 0, ()), ())
  ct : cut w (hd_ a).toNat w.length = x
  ln : (w.length : Int) = hd_ a + x.length
section
variable (N : Nat) (hN : 4611686018427387904 ≤ N)
include hN
theorem lpk {c : List UInt8 × (Int × Unit)} (h : DOk c) {d : List UInt8} (hd : d.length ≤ 200) : ∃ c' w a b q s t x, law24_packet N d c = some ((), (c', w, ())) ∧ DOk c' ∧ Drawn N w a b q s t x := by
  unfold law24_packet
  obtain ⟨v1, c1, e1, u1, w1, k1⟩ := dnext_ok N (n := 2) h (by omega) (by omega)
  obtain ⟨a, b, q, sp, dp, c2, e2, k2, two, kd, s1, s2⟩ := dpk N (s := v1) (by omega) k1
  have hl : (d ++ ([1, 2, 3, 4] : List UInt8)).length = d.length + 4 := by rw [List.length_append]; rfl
  obtain ⟨x, hx⟩ := trn_some (tcp := tcpB (a, b, q, sp, dp, ())) (s := sp) (t := dp) (d := d ++ ([1, 2, 3, 4] : List UInt8)) (by omega)
  have xl := trn_len hx
  obtain ⟨r, s, t, g1, g2, g3, g4⟩ := bsee N hN two kd (x := x) (by omega) (by omega)
  have hb := bbuild N hN two kd s1 s2 (by omega) hx
  rw [g1] at hb
  obtain ⟨e, r', h1, h2, _⟩ := build_ok N hN (a, b, q, sp, dp, ()) (d := d ++ ([1, 2, 3, 4] : List UInt8)) (by omega)
  rw [hb] at h1
  simp only [Option.some.injEq, Prod.mk.injEq, and_true] at h1
  rw [← h1.1, ← h1.2] at h2
  rw [e1, Option.bind_some]
  simp only []
  rw [e2, Option.bind_some, room_of (by omega), room_of (by simp only [List.length_cons, List.length_nil]; omega), cond_true, cond_true]
  simp only []
  rw [h2, Option.bind_some]
  exact ⟨_, _, a, b, q, s, t, x, rfl, k2, two, kd, by omega, by omega, g1, g2, g3, g4⟩
theorem car_t {k : List UInt8} (hk : k.length = 36) {f t : Ad} (h : Two f t) {w : List UInt8} (hw : w.length ≤ 300) {v : Sn} (hs : lookup_See N w = some ((v, 0, ()), ())) :
    ∃ r, esp_Tunnel N k 3 4 f t w = some ((0, ()), (r, ())) ∧ esp_Untunnel N k r 4 = some ((w, 0, ()), ()) := by
  obtain ⟨s, e, e1, e2, ok⟩ := see_eq N hN (b := w) (by omega)
  rw [hs] at e1
  simp only [Option.some.injEq, Prod.mk.injEq, and_true] at e1
  obtain ⟨rfl, rfl⟩ := e1
  obtain ⟨h0, h1, h2, h3, h4⟩ := ok rfl
  have hkey : ∀ num, keyed (k.take 32) (enon k num) = true := by
    intro num
    unfold keyed enon
    rw [dpos (by rw [List.length_take]; omega), dpos (by rw [List.length_append, List.length_drop, be_len]; omega)]; rfl
  have hn : ∃ n : Int, (n = 4 ∨ n = 41) ∧ esp_whole N ((shr8 (w.getD 0 0) 4).toNat : Int) = some ((n, ()), ()) ∧ esp_whole N v.1.1.1 = some ((n, ()), ()) := by
    unfold esp_whole
    rcases h4 with ⟨h4, h5⟩ | ⟨h4, h5⟩
    · rw [h4, h5]; exact ⟨4, .inl rfl, rfl, rfl⟩
    · rw [h4, h5]; exact ⟨41, .inr rfl, rfl, rfl⟩
  obtain ⟨n, n0, n1, n2⟩ := hn
  obtain ⟨B, b1, b2, b3, b4⟩ := eopen_seal hk hkey 3 (num := 4) (by decide) (by decide) (p := w) (by omega) (next := n) (by omega) (by omega)
  obtain ⟨r2, s2, t2, g1, g2, g3, g4⟩ := bsee N hN h (q := 50) (.inr (.inr (.inr rfl))) (x := B) (by omega) (by omega)
  have hbB := bbuild N hN h (q := 50) (sp := -1) (dp := -1) (.inr (.inr (.inr rfl))) ⟨by omega, by omega⟩ ⟨by omega, by omega⟩ (d := B) (by omega) (trn_plain_ B)
  rw [g1] at hbB
  have hh : hd_ f = 40 ∨ hd_ f = 20 := by unfold hd_; split <;> omega
  refine ⟨r2, ?_, ?_⟩
  · unfold esp_Tunnel
    rw [hs, Option.bind_some]
    simp only [decide_true, Bool.not_true, cond_false, inR_of (show (0 : Int) ≤ 0 by omega) (show (0 : Int) < (w.length : Int) by omega), cond_true]
    rw [n1, Option.bind_some]
    unfold esp_wrap_esp_Tunnel_f1
    rw [eseal_ok N hN, b1]
    simp only [Option.bind_some, decide_true, Bool.not_true, cond_false]
    unfold esp_Tunnel_f1 esp_hidden
    simp only [Option.bind_some]
    rw [hbB]
    rfl
  · unfold esp_Untunnel
    rw [g2, Option.bind_some]
    simp only [decide_true, Bool.not_true, cond_false, dpos (show 0 ≤ hd_ f by omega), dpos (show hd_ f ≤ (r2.length : Int) by omega), dpos (Int.le_refl (r2.length : Int)), Bool.and_self, cond_true, g3]
    rw [eopen_ok N hN k 4 (by omega), b2]
    simp only [Option.bind_some, decide_true, Bool.not_true, cond_false]
    have un : esp_Untunnel_1 N w n = some ((w, 0, ()), ()) := by
      unfold esp_Untunnel_1
      rw [hs, Option.bind_some]
      simp only [decide_true, Bool.not_true, cond_false]
      rw [n2, Option.bind_some]
      simp only [decide_true, Bool.not_true, cond_false]
    rw [un]
    rcases n0 with rfl | rfl <;> rfl
end
theorem carries (codes : List UInt8) (hc : codes.length ≤ 9223372036854775807) (data : List UInt8) (_hd : data.length ≤ 9223372036854775807) : law24_EspCarries 18446744073709551616 codes data = some ((true, ()), ()) := by
  unfold law24_EspCarries
  rw [awake24]
  generalize hN0 : 18446744073709551616 = N
  have hN : 4611686018427387904 ≤ N := by omega
  clear hN0
  simp only [Option.bind_some, Bool.not_true, cond_false]
  unfold law24_EspCarries_1
  by_cases h1 : (200 : Int) < (data.length : Int)
  · rw [dpos h1]; rfl
  rw [dneg h1]
  simp only [cond_false]
  obtain ⟨c0, e0, k0⟩ := dnew_ok N codes (m := 40) (by omega) (by omega) hc
  obtain ⟨v1, c1, e1, u1, w1, k1⟩ := dnext_ok N (n := 36) k0 (by omega) (by omega)
  obtain ⟨v2, c2, e2, u2, w2, k2⟩ := dnext_ok N (n := 256) k1 (by omega) (by omega)
  obtain ⟨c3, w, a, b, q, s, t, x, e3, k3, D⟩ := lpk N hN k2 (d := data) (by omega)
  obtain ⟨pa, pb, pq, psp, pdp, c4, e4, k4, ptwo, _⟩ := dpk N (s := 0) (by omega) k3
  obtain ⟨qa, qb, qq, qsp, qdp, c5, e5, k5, qtwo, _⟩ := dpk N (s := 1) (by omega) k4
  rw [e0, Option.bind_some, e1, Option.bind_some]
  simp only []
  rw [e2, Option.bind_some]
  rw [inR_of u1 (by rw [List.length_replicate]; omega), cond_true]
  simp only []
  have hkl : ((List.replicate 36 (0 : UInt8)).set v1.toNat (iu8 v2)).length = 36 := by rw [List.length_set, List.length_replicate]
  generalize (List.replicate 36 (0 : UInt8)).set v1.toNat (iu8 v2) = k at *
  rw [e3, Option.bind_some]
  simp only []
  have hh : hd_ a = 40 ∨ hd_ a = 20 := by unfold hd_; split <;> omega
  have hwl : w.length ≤ 244 := by have := D.ln; have := D.lx; omega
  have rs := rsee N hN (b := w) (by omega) (v := (((a, b, q, s, t, ()), 0, false, false, hd_ a, ()), 0, ())) D.see
  have c2 := car_2 N hN hkl D.two D.kd D.l4 (by have := D.lx; omega) D.bd D.see D.ct D.ln
  rw [rs, Option.bind_some]
  simp only [decide_true, Bool.not_true, cond_false]
  rw [e4, Option.bind_some]
  simp only []
  rw [e5, Option.bind_some]
  simp only []
  by_cases hf : pa.1 = qa.1
  · obtain ⟨r, t1, t2⟩ := car_t N hN hkl (f := pa) (t := qa) ⟨ptwo.v1, qtwo.v1, hf⟩ (w := w) (by omega) D.see
    rw [dpos hf, cond_true, t1, Option.bind_some]
    simp only []
    rw [t2, Option.bind_some]
    simp only [decide_true, Bool.not_true, cond_false]
    rw [same24 N hN w (by omega), Option.bind_some]
    simp only [Bool.not_true, cond_false]
    exact c2
  · rw [dneg hf, cond_false]
    exact c2
end Go.Proofs.YtofajgidjkjnpaaDoor.Pl
