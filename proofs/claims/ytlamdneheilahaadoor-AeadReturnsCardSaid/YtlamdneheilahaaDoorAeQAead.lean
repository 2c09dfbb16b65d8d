/- Plain: sealing and opening, the program's and the reference's. -/
import Derived.Test.YtlamdneheilahaaDoorAeQChaB
import Derived.Test.YtlamdneheilahaaDoorAeQPolyRef
import Derived.Test.YtlamdneheilahaaDoorAeQEqual
import Derived.Test.YtlamdneheilahaaDoorFnsAeadReturnsA
import Derived.Test.YtlamdneheilahaaDoorFnsAeadReturnsB
set_option linter.unusedVariables false
set_option linter.unusedSimpArgs false
namespace Go.Proofs.YtlamdneheilahaaDoor.Pl
open Go Poly
noncomputable section
def keyed (k n : List UInt8) : Bool := decide (k.length = 32) && decide (n.length = 12)
theorem keyed_ok (N : Nat) (k n : List UInt8) : aead_keyed N k n = some ((keyed k n, ()), ()) := by
  unfold aead_keyed keyed
  by_cases h1 : k.length = 32
  · by_cases h2 : n.length = 12 <;> simp (disch := omega) only [dpos, dneg, w64_of, inR_of, room_of, tmod_of, cond_true, cond_false, Bool.and_self, Bool.and_true, Bool.true_and, Bool.and_false, Bool.false_and, Bool.not_true, Bool.not_false, Option.bind_some, List.length_cons, List.length_nil, Nat.zero_add]
  · simp (disch := omega) only [dpos, dneg, w64_of, inR_of, room_of, tmod_of, cond_true, cond_false, Bool.and_self, Bool.and_true, Bool.true_and, Bool.and_false, Bool.false_and, Bool.not_true, Bool.not_false, Option.bind_some, List.length_cons, List.length_nil, Nat.zero_add]
theorem keyed_iff {k n : List UInt8} : keyed k n = true ↔ k.length = 32 ∧ n.length = 12 := by simp [keyed]
/-- Zeros up to a multiple of 16. -/
def zs (n : Nat) : List UInt8 := List.replicate ((16 - n % 16) % 16) 0
theorem zs_len (n : Nat) : (zs n).length < 16 := by simp [zs]; omega
theorem padded_ok (N : Nat) {b l : List UInt8} (h : l.length + b.length ≤ 35184372088832) : aead_padded N b l = some ((), (l ++ b ++ zs b.length, ())) := by
  unfold aead_padded
  have e : ((16 - (b.length : Int) % 16) % 16).toNat = (16 - b.length % 16) % 16 := by omega
  simp (disch := omega) only [dpos, dneg, w64_of, inR_of, room_of, tmod_of, cond_true, cond_false, Bool.and_self, Bool.and_true, Bool.true_and, Bool.and_false, Bool.false_and, Bool.not_true, Bool.not_false, Option.bind_some, List.length_cons, List.length_nil, Nat.zero_add, e, List.length_replicate, List.length_append]
  rfl
theorem rpad_ok (N : Nat) (hN : 4611686018427387904 ≤ N) {b : List UInt8} (h : b.length ≤ 35184372088832) : ref12_pad N b = some ((), (b ++ zs b.length, ())) := by
  unfold ref12_pad ref12_pad_1
  simp (disch := omega) only [dpos, dneg, w64_of, inR_of, room_of, tmod_of, cond_true, cond_false, Bool.and_self, Bool.and_true, Bool.true_and, Bool.and_false, Bool.false_and, Bool.not_true, Bool.not_false, Option.bind_some, List.length_cons, List.length_nil, Nat.zero_add]
  obtain ⟨z, hz⟩ : ∃ z, z = (16 - b.length % 16) % 16 := ⟨_, rfl⟩
  have hzN : z < N := by omega
  have h0 : b ++ List.replicate 0 (0 : UInt8) = b := by simp
  have := loopK_run (step := fun y => ref12_pad_s2 N y.2.1) (J := fun (e : ((Unit) × ((List UInt8) × Unit))) => ref12_pad_3 N e.2.1) (fun i : Nat => ((), (b ++ List.replicate i 0, ()))) (n := z) ?_ (e := ((), (b ++ List.replicate z 0, ()))) ?_ hzN
  · rw [h0] at this
    refine this.trans ?_
    unfold ref12_pad_3 zs
    rw [hz]
  · intro i hi
    show ref12_pad_s2 N _ = _
    unfold ref12_pad_s2
    simp (disch := omega) only [dpos, dneg, w64_of, inR_of, room_of, tmod_of, cond_true, cond_false, Bool.and_self, Bool.and_true, Bool.true_and, Bool.and_false, Bool.false_and, Bool.not_true, Bool.not_false, Option.bind_some, List.length_cons, List.length_nil, Nat.zero_add, List.length_append, List.length_replicate, Int.natCast_add]
    rw [List.append_assoc, ← List.replicate_succ']
  · show ref12_pad_s2 N _ = _
    unfold ref12_pad_s2
    simp (disch := omega) only [dpos, dneg, w64_of, inR_of, room_of, tmod_of, cond_true, cond_false, Bool.and_self, Bool.and_true, Bool.true_and, Bool.and_false, Bool.false_and, Bool.not_true, Bool.not_false, Option.bind_some, List.length_cons, List.length_nil, Nat.zero_add, List.length_append, List.length_replicate, Int.natCast_add]
/-- Eight bytes, the lowest one first. -/
def le8 (v : UInt64) : List UInt8 := (List.range 8).map fun (i : Nat) => (shr64 v (8 * (i : Int)).toNat).toUInt8
theorem le8_len (v : UInt64) : (le8 v).length = 8 := by simp [le8]
theorem le8_get (v : UInt64) {i : Nat} (h : i < 8) : (le8 v).getD i 0 = (shr64 v (8 * (i : Int)).toNat).toUInt8 := by simp [le8, List.getD, h]
theorem length_ok (N : Nat) (hN : 4611686018427387904 ≤ N) (n : Int) {l : List UInt8} (h : l.length ≤ 70368744177664) : aead_length N n l = some ((), (l ++ le8 (iu64 n), ())) := by
  unfold aead_length aead_length_1
  have hl := le8_len (iu64 n)
  have h8N : 8 < N := by omega
  have h0 : l ++ (le8 (iu64 n)).take 0 = l := by simp
  have := loopK_run (step := fun y => aead_length_s2 N y.1.1 y.1.2.1 y.2.1) (J := fun (e : ((Unit) × ((List UInt8) × Unit))) => aead_length_3 N e.2.1) (fun i : Nat => ((n, (i : Int), ()), (l ++ (le8 (iu64 n)).take i, ()))) (n := 8) ?_ (e := ((), (l ++ le8 (iu64 n), ()))) ?_ h8N
  · rw [h0] at this
    exact this
  · intro i hi
    have hti : ((le8 (iu64 n)).take i).length = i := by simp; omega
    show aead_length_s2 N n _ _ = _
    unfold aead_length_s2
    simp (disch := omega) only [dpos, dneg, w64_of, inR_of, room_of, tmod_of, cond_true, cond_false, Bool.and_self, Bool.and_true, Bool.true_and, Bool.and_false, Bool.false_and, Bool.not_true, Bool.not_false, Option.bind_some, List.length_cons, List.length_nil, Nat.zero_add, List.length_append, hti, Int.natCast_add, Int.natCast_one]
    rw [take_snoc _ 0 (by omega), le8_get _ hi, List.append_assoc]
  · show aead_length_s2 N n _ _ = _
    unfold aead_length_s2
    simp (disch := omega) only [dpos, dneg, w64_of, inR_of, room_of, tmod_of, cond_true, cond_false, Bool.and_self, Bool.and_true, Bool.true_and, Bool.and_false, Bool.false_and, Bool.not_true, Bool.not_false, Option.bind_some, List.length_cons, List.length_nil, Nat.zero_add]
    rw [List.take_of_length_le (by omega)]
theorem little_ok (N : Nat) (hN : 4611686018427387904 ≤ N) (v : UInt64) {l : List UInt8} (h : l.length ≤ 70368744177664) : ref12_little N v l = some ((), (l ++ le8 v, ())) := by
  unfold ref12_little ref12_little_1
  have hl := le8_len v
  have h8N : 8 < N := by omega
  have h0 : l ++ (le8 v).take 0 = l := by simp
  have hu : ∀ x : Int, 0 ≤ x → x < 64 → (iu64 x).toNat = x.toNat := by
    intro x h0 h1
    obtain ⟨n, rfl⟩ := Int.eq_ofNat_of_zero_le h0
    have : n < 64 := by omega
    clear h0 h1
    revert n
    decide
  have := loopK_run (step := fun y => ref12_little_s2 N y.1.1 y.1.2.1 y.2.1) (J := fun (e : ((Unit) × ((List UInt8) × Unit))) => ref12_little_3 N e.2.1) (fun i : Nat => ((v, (i : Int), ()), (l ++ (le8 v).take i, ()))) (n := 8) ?_ (e := ((), (l ++ le8 v, ()))) ?_ h8N
  · rw [h0] at this
    exact this
  · intro i hi
    have hti : ((le8 v).take i).length = i := by simp; omega
    show ref12_little_s2 N v _ _ = _
    unfold ref12_little_s2
    simp (disch := omega) only [dpos, dneg, w64_of, inR_of, room_of, tmod_of, cond_true, cond_false, Bool.and_self, Bool.and_true, Bool.true_and, Bool.and_false, Bool.false_and, Bool.not_true, Bool.not_false, Option.bind_some, List.length_cons, List.length_nil, Nat.zero_add, List.length_append, hti, hu, Int.natCast_add, Int.natCast_one]
    rw [take_snoc _ 0 (by omega), le8_get _ hi, List.append_assoc]
  · show ref12_little_s2 N v _ _ = _
    unfold ref12_little_s2
    simp (disch := omega) only [dpos, dneg, w64_of, inR_of, room_of, tmod_of, cond_true, cond_false, Bool.and_self, Bool.and_true, Bool.true_and, Bool.and_false, Bool.false_and, Bool.not_true, Bool.not_false, Option.bind_some, List.length_cons, List.length_nil, Nat.zero_add]
    rw [List.take_of_length_le (by omega)]
/-- What the tag is taken of. -/
def tin (d c : List UInt8) : List UInt8 := d ++ zs d.length ++ c ++ zs c.length ++ le8 (iu64 (d.length : Int)) ++ le8 (iu64 (c.length : Int))
def atag (k n d c : List UInt8) : List UInt8 := tag ((cblk k 0 n).take 32) (tin d c)
theorem atag_len (k n d c : List UInt8) : (atag k n d c).length = 16 := tag_len _ _
theorem tin_len {d c : List UInt8} (hd : d.length ≤ 4398046511104) (hc : c.length ≤ 4398046511104) : (tin d c).length ≤ 8796093022308 := by
  have := zs_len d.length; have := zs_len c.length
  unfold tin
  simp only [List.length_append, le8_len]
  omega
theorem tag_no (N : Nat) {k n d c : List UInt8} (h : keyed k n = false) : aead_Tag N k n d c = some ((false, ()), ([], ())) := by
  unfold aead_Tag
  simp only [dpos, dneg, w64_of, inR_of, room_of, tmod_of, cond_true, cond_false, Bool.and_self, Bool.and_true, Bool.true_and, Bool.and_false, Bool.false_and, Bool.not_true, Bool.not_false, Option.bind_some, List.length_cons, List.length_nil, Nat.zero_add, keyed_ok, h]
theorem rblock_no (N : Nat) {k n : List UInt8} (x : UInt32) (h : keyed k n = false) : ref10_Block N k x n = some ((false, ()), ([], ())) := by
  unfold ref10_Block ref10_Block_1
  by_cases h1 : k.length = 32
  · have h2 : ¬ n.length = 12 := fun e => by rw [keyed_iff.2 ⟨h1, e⟩] at h; cases h
    simp (disch := omega) only [dpos, dneg, w64_of, inR_of, room_of, tmod_of, cond_true, cond_false, Bool.and_self, Bool.and_true, Bool.true_and, Bool.and_false, Bool.false_and, Bool.not_true, Bool.not_false, Option.bind_some, List.length_cons, List.length_nil, Nat.zero_add]
  · simp (disch := omega) only [dpos, dneg, w64_of, inR_of, room_of, tmod_of, cond_true, cond_false, Bool.and_self, Bool.and_true, Bool.true_and, Bool.and_false, Bool.false_and, Bool.not_true, Bool.not_false, Option.bind_some, List.length_cons, List.length_nil, Nat.zero_add]
theorem rtag_no (N : Nat) {k n d c : List UInt8} (h : keyed k n = false) : ref12_Tag N k n d c = some ((false, ()), ([], ())) := by
  unfold ref12_Tag
  rw [rblock_no N 0 h]
  simp only [dpos, dneg, w64_of, inR_of, room_of, tmod_of, cond_true, cond_false, Bool.and_self, Bool.and_true, Bool.true_and, Bool.and_false, Bool.false_and, Bool.not_true, Bool.not_false, Option.bind_some, List.length_cons, List.length_nil, Nat.zero_add]
theorem seal_no (N : Nat) {k n d c : List UInt8} (h : keyed k n = false) : aead_Seal N k n d c = some ((13, ()), ([], ())) := by
  unfold aead_Seal
  simp only [dpos, dneg, w64_of, inR_of, room_of, tmod_of, cond_true, cond_false, Bool.and_self, Bool.and_true, Bool.true_and, Bool.and_false, Bool.false_and, Bool.not_true, Bool.not_false, Option.bind_some, List.length_cons, List.length_nil, Nat.zero_add, keyed_ok, h]
theorem rseal_no (N : Nat) {k n d c : List UInt8} (h : keyed k n = false) : ref12_Seal N k n d c = some ((13, ()), ([], ())) := by
  unfold ref12_Seal ref10_Xor ref10_Xor_1
  by_cases h1 : k.length = 32
  · have h2 : ¬ n.length = 12 := fun e => by rw [keyed_iff.2 ⟨h1, e⟩] at h; cases h
    simp (disch := omega) only [dpos, dneg, w64_of, inR_of, room_of, tmod_of, cond_true, cond_false, Bool.and_self, Bool.and_true, Bool.true_and, Bool.and_false, Bool.false_and, Bool.not_true, Bool.not_false, Option.bind_some, List.length_cons, List.length_nil, Nat.zero_add]
  · simp (disch := omega) only [dpos, dneg, w64_of, inR_of, room_of, tmod_of, cond_true, cond_false, Bool.and_self, Bool.and_true, Bool.true_and, Bool.and_false, Bool.false_and, Bool.not_true, Bool.not_false, Option.bind_some, List.length_cons, List.length_nil, Nat.zero_add]
section
variable (N : Nat) (hN : 4611686018427387904 ≤ N) {k n d c : List UInt8} (hd : d.length ≤ 4398046511104) (hc : c.length ≤ 4398046511104)
include hN hd hc
theorem tag_ok (hk : k.length = 32) (hn : n.length = 12) : aead_Tag N k n d c = some ((true, ()), (atag k n d c, ())) := by
  unfold aead_Tag atag
  have hkd : keyed k n = true := keyed_iff.2 ⟨hk, hn⟩
  have hcl := cblk_len k 0 n
  have hcut : cut (cblk k 0 n) 0 32 = (cblk k 0 n).take 32 := by simp [cut]
  have hz1 := zs_len d.length; have hz2 := zs_len c.length
  have hp1 : aead_padded N d [] = some ((), (d ++ zs d.length, ())) := padded_ok N (l := []) (by simp; omega)
  have hp2 : aead_padded N c (d ++ zs d.length) = some ((), (d ++ zs d.length ++ c ++ zs c.length, ())) := padded_ok N (by simp; omega)
  have h8 := le8_len (iu64 (d.length : Int))
  have hl1 : aead_length N (d.length : Int) (d ++ zs d.length ++ c ++ zs c.length) = some ((), (d ++ zs d.length ++ c ++ zs c.length ++ le8 (iu64 (d.length : Int)), ())) := length_ok N hN _ (by simp; omega)
  have hl2 : aead_length N (c.length : Int) (d ++ zs d.length ++ c ++ zs c.length ++ le8 (iu64 (d.length : Int))) = some ((), (tin d c, ())) := length_ok N hN _ (by simp; omega)
  have ht : ((cblk k 0 n).take 32).length = 32 := by simp; omega
  have htin := tin_len hd hc
  have hs : poly1305_Sum N ((cblk k 0 n).take 32) (tin d c) = some ((true, ()), (tag ((cblk k 0 n).take 32) (tin d c), ())) := sum_ok N hN ht (by omega) (by omega)
  simp (disch := omega) only [dpos, dneg, w64_of, inR_of, room_of, tmod_of, cond_true, cond_false, Bool.and_self, Bool.and_true, Bool.true_and, Bool.and_false, Bool.false_and, Bool.not_true, Bool.not_false, Option.bind_some, List.length_cons, List.length_nil, Nat.zero_add, keyed_ok, hkd, cblock_ok, hp1, hp2, hl1, hl2, hcut, hs]
theorem rtag_ok (hk : k.length = 32) (hn : n.length = 12) : ref12_Tag N k n d c = some ((true, ()), (atag k n d c, ())) := by
  unfold ref12_Tag atag
  have hcl := cblk_len k 0 n
  have hcut : cut (cblk k 0 n) 0 32 = (cblk k 0 n).take 32 := by simp [cut]
  have hz1 := zs_len d.length; have hz2 := zs_len c.length
  have l1 : (d ++ zs d.length).length ≤ 4398046511204 := by simp; omega
  have l1' : (c ++ zs c.length).length ≤ 4398046511204 := by simp; omega
  have l2 : (d ++ zs d.length ++ (c ++ zs c.length)).length ≤ 8796093022408 := by simp; omega
  have h8 := le8_len (iu64 (d.length : Int))
  have l3 : (d ++ zs d.length ++ (c ++ zs c.length) ++ le8 (iu64 (d.length : Int))).length ≤ 8796093022508 := by simp; omega
  have ht : ((cblk k 0 n).take 32).length = 32 := by simp; omega
  have htin := tin_len hd hc
  have hs : ref11_Sum N ((cblk k 0 n).take 32) (tin d c) = some ((true, ()), (tag ((cblk k 0 n).take 32) (tin d c), ())) := rsum_ok N hN ht (by omega) (by omega)
  have ha : d ++ zs d.length ++ (c ++ zs c.length) ++ le8 (iu64 (d.length : Int)) ++ le8 (iu64 (c.length : Int)) = tin d c := by unfold tin; simp
  simp (disch := omega) only [dpos, dneg, w64_of, inR_of, room_of, tmod_of, cond_true, cond_false, Bool.and_self, Bool.and_true, Bool.true_and, Bool.and_false, Bool.false_and, Bool.not_true, Bool.not_false, Option.bind_some, List.length_cons, List.length_nil, Nat.zero_add, rblock_ok, rpad_ok, little_ok, hcut, ha, hs]
/-- The sealed bytes. -/
theorem seal_ok (hk : k.length = 32) (hn : n.length = 12) : aead_Seal N k n d c = some ((0, ()), (cx k 1 n c ++ atag k n d (cx k 1 n c), ())) := by
  unfold aead_Seal
  have hkd : keyed k n = true := keyed_iff.2 ⟨hk, hn⟩
  have hxl := cx_len k 1 n c
  have htl := atag_len k n d (cx k 1 n c)
  simp (disch := omega) only [dpos, dneg, w64_of, inR_of, room_of, tmod_of, cond_true, cond_false, Bool.and_self, Bool.and_true, Bool.true_and, Bool.and_false, Bool.false_and, Bool.not_true, Bool.not_false, Option.bind_some, List.length_cons, List.length_nil, Nat.zero_add, keyed_ok, hkd, xor_ok, tag_ok]
theorem rseal_ok (hk : k.length = 32) (hn : n.length = 12) : ref12_Seal N k n d c = some ((0, ()), (cx k 1 n c ++ atag k n d (cx k 1 n c), ())) := by
  unfold ref12_Seal
  have hxl := cx_len k 1 n c
  have htl := atag_len k n d (cx k 1 n c)
  simp (disch := omega) only [dpos, dneg, w64_of, inR_of, room_of, tmod_of, cond_true, cond_false, Bool.and_self, Bool.and_true, Bool.true_and, Bool.and_false, Bool.false_and, Bool.not_true, Bool.not_false, Option.bind_some, List.length_cons, List.length_nil, Nat.zero_add, rxor_ok, rtag_ok]
end
theorem or_zero_iff (x y : UInt8) : x ||| y = 0 ↔ x = 0 ∧ y = 0 := by
  constructor
  · intro h
    have h' := congrArg UInt8.toNat h
    rw [UInt8.toNat_or] at h'
    have z : (0 : UInt8).toNat = 0 := rfl
    rw [z] at h'
    have := Nat.left_le_or (n := x.toNat) (m := y.toNat)
    have := Nat.right_le_or (n := x.toNat) (m := y.toNat)
    exact ⟨UInt8.toNat_inj.1 (by rw [z]; omega), UInt8.toNat_inj.1 (by rw [z]; omega)⟩
  · rintro ⟨rfl, rfl⟩; rfl
theorem different_ok (N : Nat) (hN : 4611686018427387904 ≤ N) {a b : List UInt8} (h : a.length = b.length) (hl : a.length ≤ 1000) : ∃ v, aead_different N a b = some ((v, ()), ()) ∧ (v = 0 ↔ a = b) := by
  unfold aead_different aead_different_1
  have := loopK_of (N := N) (step := fun y => aead_different_s2 N y.1.1 y.1.2.1 y.1.2.2.1 y.1.2.2.2.1 y.1.2.2.2.2.1) (J := fun (e : ((UInt8 × Unit) × (Unit))) => aead_different_3 N e.1.1)
    (I := fun y => ∃ i : Nat, y = ((a, b, y.1.2.2.1, (a.length : Int), (i : Int), ()), ()) ∧ i ≤ a.length ∧ (y.1.2.2.1 = 0 ↔ a.take i = b.take i)) (μ := fun y => ((a.length : Int) - y.1.2.2.2.2.1).toNat) (T := fun r => ∃ v, r = ((v, ()), ()) ∧ (v = 0 ↔ a = b)) ?_
    (x := ((a, b, 0, (a.length : Int), 0, ()), ())) ⟨0, rfl, by omega, by simp⟩ (by simp only; omega)
  · obtain ⟨r, h1, v, rfl, h2⟩ := this
    exact ⟨v, h1, h2⟩
  · rintro ⟨⟨a', b', v, n, j, _⟩, _⟩ ⟨i, e, hi, hv⟩
    simp only [Prod.mk.injEq] at e
    obtain ⟨⟨rfl, rfl, _, rfl, rfl, _⟩, _⟩ := e
    simp only at hv ⊢
    show ∃ o, aead_different_s2 N a' b' v (a'.length : Int) (i : Int) = some o ∧ _
    unfold aead_different_s2
    by_cases hlt : i < a'.length
    · simp (disch := omega) only [dpos, dneg, w64_of, inR_of, room_of, tmod_of, cond_true, cond_false, Bool.and_self, Bool.and_true, Bool.true_and, Bool.and_false, Bool.false_and, Bool.not_true, Bool.not_false, Option.bind_some, List.length_cons, List.length_nil, Nat.zero_add, Int.toNat_natCast]
      refine ⟨_, rfl, ⟨i + 1, rfl, by omega, ?_⟩, by simp only; omega⟩
      simp only
      rw [or_zero_iff, hv, take_snoc a' 0 hlt, take_snoc b' 0 (by omega)]
      have hx : (a'.getD i 0 ^^^ b'.getD i 0 = 0) ↔ a'.getD i 0 = b'.getD i 0 := by
        constructor
        · intro e
          have := congrArg (· ^^^ b'.getD i 0) e
          simpa [UInt8.xor_assoc] using this
        · intro e; rw [e]; exact UInt8.xor_self
      rw [hx]
      constructor
      · rintro ⟨e1, e2⟩; rw [e1, e2]
      · intro e
        have := List.append_inj e (by simp; omega)
        exact ⟨this.1, by simpa using this.2⟩
    · have : i = a'.length := by omega
      subst this
      simp (disch := omega) only [dpos, dneg, w64_of, inR_of, room_of, tmod_of, cond_true, cond_false, Bool.and_self, Bool.and_true, Bool.true_and, Bool.and_false, Bool.false_and, Bool.not_true, Bool.not_false, Option.bind_some, List.length_cons, List.length_nil, Nat.zero_add]
      refine ⟨_, rfl, _, rfl, v, rfl, ?_⟩
      rw [hv, List.take_length, List.take_of_length_le (by omega)]
/-- What opening makes of bytes. -/
def aopen (k n d s : List UInt8) : List UInt8 × Int :=
  if keyed k n = false then ([], 13) else if s.length < 16 then ([], 1) else
    if atag k n d (s.take (s.length - 16)) = s.drop (s.length - 16) then (cx k 1 n (s.take (s.length - 16)), 0) else ([], 12)
theorem aopen_len (k n d s : List UInt8) : (aopen k n d s).1.length ≤ s.length := by
  unfold aopen
  split
  · simp
  · split
    · simp
    · split
      · simp [cx_len]
      · simp
section
variable (N : Nat) (hN : 4611686018427387904 ≤ N) {k n d s : List UInt8} (hd : d.length ≤ 4398046511104) (hs : s.length ≤ 4398046511104)
include hN hd hs
theorem open_ok : aead_Open N k n d s = some (((aopen k n d s).2, ()), ((aopen k n d s).1, ())) := by
  unfold aead_Open aopen
  rw [keyed_ok]
  by_cases hk : keyed k n = false
  · rw [hk]; simp only [dpos, dneg, w64_of, inR_of, room_of, tmod_of, cond_true, cond_false, Bool.and_self, Bool.and_true, Bool.true_and, Bool.and_false, Bool.false_and, Bool.not_true, Bool.not_false, Option.bind_some, List.length_cons, List.length_nil, Nat.zero_add, if_true]
  · have hk' : keyed k n = true := by simpa using hk
    obtain ⟨h1, h2⟩ := keyed_iff.1 hk'
    rw [hk', if_neg (by decide)]
    by_cases h16 : s.length < 16
    · simp (disch := omega) only [dpos, dneg, w64_of, inR_of, room_of, tmod_of, cond_true, cond_false, Bool.and_self, Bool.and_true, Bool.true_and, Bool.and_false, Bool.false_and, Bool.not_true, Bool.not_false, Option.bind_some, List.length_cons, List.length_nil, Nat.zero_add, if_pos]
    · have e1 : ((s.length : Int) - 16).toNat = s.length - 16 := by omega
      have c1 : cut s 0 (s.length - 16) = s.take (s.length - 16) := by simp [cut]
      have c2 : cut s (s.length - 16) s.length = s.drop (s.length - 16) := by simp [cut]
      have l1 : (s.take (s.length - 16)).length ≤ 4398046511104 := by simp; omega
      have l2 : (s.drop (s.length - 16)).length = 16 := by simp; omega
      have lt := atag_len k n d (s.take (s.length - 16))
      obtain ⟨v, e2, e3⟩ := different_ok N hN (a := atag k n d (s.take (s.length - 16))) (b := s.drop (s.length - 16)) (by omega) (by omega)
      simp (disch := omega) only [dpos, dneg, w64_of, inR_of, room_of, tmod_of, cond_true, cond_false, Bool.and_self, Bool.and_true, Bool.true_and, Bool.and_false, Bool.false_and, Bool.not_true, Bool.not_false, Option.bind_some, List.length_cons, List.length_nil, Nat.zero_add, e1, c1, c2, tag_ok, e2]
      by_cases hv : v = 0
      · have := e3.1 hv
        simp (disch := omega) only [dpos, dneg, w64_of, inR_of, room_of, tmod_of, cond_true, cond_false, Bool.and_self, Bool.and_true, Bool.true_and, Bool.and_false, Bool.false_and, Bool.not_true, Bool.not_false, Option.bind_some, List.length_cons, List.length_nil, Nat.zero_add, hv, decide_true, xor_ok, if_neg h16, if_pos this]
      · have hne : ¬ (atag k n d (s.take (s.length - 16)) = s.drop (s.length - 16)) := fun e => hv (e3.2 e)
        rw [dneg hv, if_neg h16, if_neg hne]
        simp only [dpos, dneg, w64_of, inR_of, room_of, tmod_of, cond_true, cond_false, Bool.and_self, Bool.and_true, Bool.true_and, Bool.and_false, Bool.false_and, Bool.not_true, Bool.not_false, Option.bind_some, List.length_cons, List.length_nil, Nat.zero_add]
theorem ropen_ok : ref12_Open N k n d s = some (((aopen k n d s).2, ()), ((aopen k n d s).1, ())) := by
  unfold ref12_Open ref12_Open_1 aopen
  by_cases h1 : k.length = 32
  · by_cases h2 : n.length = 12
    · have hk' : keyed k n = true := keyed_iff.2 ⟨h1, h2⟩
      rw [hk', if_neg (by decide)]
      by_cases h16 : s.length < 16
      · simp (disch := omega) only [dpos, dneg, w64_of, inR_of, room_of, tmod_of, cond_true, cond_false, Bool.and_self, Bool.and_true, Bool.true_and, Bool.and_false, Bool.false_and, Bool.not_true, Bool.not_false, Option.bind_some, List.length_cons, List.length_nil, Nat.zero_add, if_pos]
      · have e1 : ((s.length : Int) - 16).toNat = s.length - 16 := by omega
        have c1 : cut s 0 (s.length - 16) = s.take (s.length - 16) := by simp [cut]
        have c2 : cut s (s.length - 16) s.length = s.drop (s.length - 16) := by simp [cut]
        have l1 : (s.take (s.length - 16)).length ≤ 4398046511104 := by simp; omega
        have l2 : (s.drop (s.length - 16)).length = 16 := by simp; omega
        have lt := atag_len k n d (s.take (s.length - 16))
        simp (disch := omega) only [dpos, dneg, w64_of, inR_of, room_of, tmod_of, cond_true, cond_false, Bool.and_self, Bool.and_true, Bool.true_and, Bool.and_false, Bool.false_and, Bool.not_true, Bool.not_false, Option.bind_some, List.length_cons, List.length_nil, Nat.zero_add, e1, c1, c2, rtag_ok, equal_ok]
        by_cases he : atag k n d (s.take (s.length - 16)) = s.drop (s.length - 16)
        · simp (disch := omega) only [dpos, dneg, w64_of, inR_of, room_of, tmod_of, cond_true, cond_false, Bool.and_self, Bool.and_true, Bool.true_and, Bool.and_false, Bool.false_and, Bool.not_true, Bool.not_false, Option.bind_some, List.length_cons, List.length_nil, Nat.zero_add, he, decide_true, rxor_ok, if_neg h16, if_true]
        · rw [dneg he, if_neg h16, if_neg he]
          simp only [dpos, dneg, w64_of, inR_of, room_of, tmod_of, cond_true, cond_false, Bool.and_self, Bool.and_true, Bool.true_and, Bool.and_false, Bool.false_and, Bool.not_true, Bool.not_false, Option.bind_some, List.length_cons, List.length_nil, Nat.zero_add]
    · have hk : keyed k n = false := by
        cases h : keyed k n
        · rfl
        · exact absurd (keyed_iff.1 h).2 h2
      simp (disch := omega) only [dpos, dneg, w64_of, inR_of, room_of, tmod_of, cond_true, cond_false, Bool.and_self, Bool.and_true, Bool.true_and, Bool.and_false, Bool.false_and, Bool.not_true, Bool.not_false, Option.bind_some, List.length_cons, List.length_nil, Nat.zero_add, hk, if_true]
  · have hk : keyed k n = false := by
      cases h : keyed k n
      · rfl
      · exact absurd (keyed_iff.1 h).1 h1
    simp (disch := omega) only [dpos, dneg, w64_of, inR_of, room_of, tmod_of, cond_true, cond_false, Bool.and_self, Bool.and_true, Bool.true_and, Bool.and_false, Bool.false_and, Bool.not_true, Bool.not_false, Option.bind_some, List.length_cons, List.length_nil, Nat.zero_add, hk, if_true]
end
end
end Go.Proofs.YtlamdneheilahaaDoor.Pl
