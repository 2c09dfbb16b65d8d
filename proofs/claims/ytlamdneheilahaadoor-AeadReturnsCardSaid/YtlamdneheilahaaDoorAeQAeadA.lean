/- Plain: the laws AeadSeals and AeadReturns. -/
import Derived.Test.YtlamdneheilahaaDoorAeQAead
import Derived.Test.YtlamdneheilahaaDoorAeQCodes
import Derived.Test.YtlamdneheilahaaDoorFnsAeadReturnsB
import Derived.Test.YtlamdneheilahaaDoorFnsAeadReturnsA
set_option linter.unusedVariables false
set_option linter.unusedSimpArgs false
namespace Go.Proofs.YtlamdneheilahaaDoor.Pl
open Go Poly
theorem awake12 : law12_awake 18446744073709551616 = some ((true, ()), ()) := by kernel_rfl
theorem both_seal (N : Nat) (hN : 4611686018427387904 ≤ N) (k n : List UInt8) {d b : List UInt8} (hd : d.length ≤ 1000) (hb : b.length ≤ 1000) :
    ∃ e p ok t, aead_Seal N k n d b = some ((e, ()), (p, ())) ∧ ref12_Seal N k n d b = some ((e, ()), (p, ())) ∧ aead_Tag N k n d b = some ((ok, ()), (t, ())) ∧ ref12_Tag N k n d b = some ((ok, ()), (t, ())) ∧ p.length ≤ 2000 ∧ t.length ≤ 16 := by
  cases h : keyed k n with
  | false => exact ⟨13, [], false, [], seal_no N h, rseal_no N h, tag_no N h, rtag_no N h, by simp, by simp⟩
  | true =>
    obtain ⟨h1, h2⟩ := keyed_iff.1 h
    refine ⟨_, _, _, _, seal_ok N hN (by omega) (by omega) h1 h2, rseal_ok N hN (by omega) (by omega) h1 h2, tag_ok N hN (by omega) (by omega) h1 h2, rtag_ok N hN (by omega) (by omega) h1 h2, ?_, ?_⟩
    · rw [List.length_append, cx_len, atag_len]; omega
    · rw [atag_len]; exact Nat.le_refl _
theorem seals_1 (N : Nat) (hN : 4611686018427387904 ≤ N) (key nonce : List UInt8) {d b : List UInt8} (codes : List UInt8) (hd : d.length ≤ 300) (hb : b.length ≤ 300) : law12_AeadSeals_1 N key nonce d b codes false = some ((true, ()), ()) := by
  unfold law12_AeadSeals_1
  obtain ⟨c0, e0, k0⟩ := new_ok N codes (m := 60) (by omega) (by omega)
  obtain ⟨c1, k, e1, l1, k1⟩ := bytes_ok (N := N) (n := 32) k0 (by omega) (by omega) (by omega)
  obtain ⟨c2, n, e2, l2, k2⟩ := bytes_ok (N := N) (n := 12) k1 (by omega) (by omega) (by omega)
  simp only [cond_false, e0, e1, e2, Option.bind_some]
  unfold law12_AeadSeals_2
  have h4N : 4 < N := by omega
  have hall : ∀ i, i < 4 → ∃ x y, ([[key, nonce], [k, n], [k, nonce], [key, n]] : List (List (List UInt8))).getD i (List.replicate 2 []) = [x, y] := by
    intro i hi
    rcases (by omega : i = 0 ∨ i = 1 ∨ i = 2 ∨ i = 3) with rfl | rfl | rfl | rfl
    · exact ⟨key, nonce, rfl⟩
    · exact ⟨k, n, rfl⟩
    · exact ⟨k, nonce, rfl⟩
    · exact ⟨key, n, rfl⟩
  have hlen : ([[key, nonce], [k, n], [k, nonce], [key, n]] : List (List (List UInt8))).length = 4 := rfl
  generalize ([[key, nonce], [k, n], [k, nonce], [key, n]] : List (List (List UInt8))) = L at hall hlen
  refine (loopK_run (fun i : Nat => ((d, b, (L.length : Int), (i : Int), ()), (L, ()))) (n := 4) ?_ (e := ((), ())) ?_ h4N).trans rfl
  · intro i hi
    obtain ⟨x, y, e⟩ := hall i hi
    obtain ⟨q, p, ok, t, s1, s2, s3, s4, lp, lt⟩ := both_seal N hN x y (d := d) (b := b) (by omega) (by omega)
    show law12_AeadSeals_s3 N d b _ _ L = _
    unfold law12_AeadSeals_s3
    simp (disch := omega) only [dpos, dneg, w64_of, inR_of, room_of, tmod_of, cond_true, cond_false, Bool.and_self, Bool.and_true, Bool.true_and, Bool.and_false, Bool.false_and, Bool.not_true, Bool.not_false, Option.bind_some, List.length_cons, List.length_nil, Nat.zero_add, Int.toNat_natCast, e, List.getD_cons_zero, List.getD_cons_succ, s1, s2, s3, s4, equal_ok, decide_true, Int.natCast_add, Int.natCast_one]
  · show law12_AeadSeals_s3 N d b _ _ L = _
    unfold law12_AeadSeals_s3
    simp (disch := omega) only [dpos, dneg, w64_of, inR_of, room_of, tmod_of, cond_true, cond_false, Bool.and_self, Bool.and_true, Bool.true_and, Bool.and_false, Bool.false_and, Bool.not_true, Bool.not_false, Option.bind_some, List.length_cons, List.length_nil, Nat.zero_add]
theorem seals (key : List UInt8) (hk : key.length ≤ 9223372036854775807) (nonce : List UInt8) (hn : nonce.length ≤ 9223372036854775807) (d : List UInt8) (hd : d.length ≤ 9223372036854775807) (b : List UInt8) (hb : b.length ≤ 9223372036854775807) (codes : List UInt8) (hc : codes.length ≤ 9223372036854775807) :
    law12_AeadSeals 18446744073709551616 key nonce d b codes = some ((true, ()), ()) := by
  unfold law12_AeadSeals
  rw [awake12]
  generalize hN0 : 18446744073709551616 = N
  have hN : 4611686018427387904 ≤ N := by omega
  clear hN0
  simp only [dpos, dneg, w64_of, inR_of, room_of, tmod_of, cond_true, cond_false, Bool.and_self, Bool.and_true, Bool.true_and, Bool.and_false, Bool.false_and, Bool.not_true, Bool.not_false, Option.bind_some, List.length_cons, List.length_nil, Nat.zero_add]
  by_cases c1 : (300 : Int) < (b.length : Int)
  · unfold law12_AeadSeals_1; simp (disch := omega) only [dpos, dneg, w64_of, inR_of, room_of, tmod_of, cond_true, cond_false, Bool.and_self, Bool.and_true, Bool.true_and, Bool.and_false, Bool.false_and, Bool.not_true, Bool.not_false, Option.bind_some, List.length_cons, List.length_nil, Nat.zero_add]
  · by_cases c2 : (300 : Int) < (d.length : Int)
    · unfold law12_AeadSeals_1; simp (disch := omega) only [dpos, dneg, w64_of, inR_of, room_of, tmod_of, cond_true, cond_false, Bool.and_self, Bool.and_true, Bool.true_and, Bool.and_false, Bool.false_and, Bool.not_true, Bool.not_false, Option.bind_some, List.length_cons, List.length_nil, Nat.zero_add]
    · rw [dneg c1, dneg c2]
      exact seals_1 N hN key nonce codes (by omega) (by omega)
theorem returns_3 (N : Nat) (hN : 4611686018427387904 ≤ N) {k n d b : List UInt8} (at_ by_ : UInt8) (hd : d.length ≤ 300) (hb : b.length ≤ 300) (hk : k.length = 32) (hn : n.length = 12) (h0 : by_ ≠ 0) :
    law12_AeadReturns_3 N d b at_ by_ k n (cx k 1 n b ++ atag k n d (cx k 1 n b)) = some ((true, ()), ()) := by
  unfold law12_AeadReturns_3
  have hxl := cx_len k 1 n b
  have htl := atag_len k n d (cx k 1 n b)
  have hat := at_.toNat_lt
  have hsl : (cx k 1 n b ++ atag k n d (cx k 1 n b)).length = b.length + 16 := by rw [List.length_append]; omega
  have e1 : ((b.length : Int) + (at_.toNat : Int) % 16).toNat = b.length + at_.toNat % 16 := by omega
  obtain ⟨p, hp⟩ : ∃ p, p = at_.toNat % 16 := ⟨_, rfl⟩
  have hkd : keyed k n = true := keyed_iff.2 ⟨hk, hn⟩
  simp (disch := omega) only [dpos, dneg, w64_of, inR_of, room_of, tmod_of, cond_true, cond_false, Bool.and_self, Bool.and_true, Bool.true_and, Bool.and_false, Bool.false_and, Bool.not_true, Bool.not_false, Option.bind_some, List.length_cons, List.length_nil, Nat.zero_add, e1]
  rw [← hp]
  obtain ⟨v, hv⟩ : ∃ v, v = (cx k 1 n b ++ atag k n d (cx k 1 n b)).getD (b.length + p) 0 ^^^ by_ := ⟨_, rfl⟩
  have hg : (cx k 1 n b ++ atag k n d (cx k 1 n b)).getD (b.length + p) 0 = (atag k n d (cx k 1 n b)).getD p 0 := by
    rw [List.getD_eq_getElem?_getD, List.getElem?_append_right (by omega), hxl, show b.length + p - b.length = p by omega, ← List.getD_eq_getElem?_getD]
  have hset : (cx k 1 n b ++ atag k n d (cx k 1 n b)).set (b.length + p) v = cx k 1 n b ++ (atag k n d (cx k 1 n b)).set p v := by
    rw [List.set_append_right _ _ (by omega), hxl, show b.length + p - b.length = p by omega]
  rw [← hv, hset]
  have hl2 : (cx k 1 n b ++ (atag k n d (cx k 1 n b)).set p v).length = b.length + 16 := by rw [List.length_append, List.length_set]; omega
  have ho : aopen k n d (cx k 1 n b ++ (atag k n d (cx k 1 n b)).set p v) = ([], 12) := by
    unfold aopen
    rw [hkd, if_neg (by decide), if_neg (by omega), hl2, show b.length + 16 - 16 = b.length by omega, List.take_left' hxl, List.drop_left' hxl, if_neg]
    intro e
    have e2 := congrArg (fun l => l.getD p 0) e
    simp only [List.getD_eq_getElem?_getD] at e2
    rw [List.getElem?_set_self (by omega)] at e2
    simp only [Option.getD_some] at e2
    rw [← List.getD_eq_getElem?_getD, hv, hg] at e2
    apply h0
    have := congrArg (fun z => (atag k n d (cx k 1 n b)).getD p 0 ^^^ z) e2
    simpa [← UInt8.xor_assoc] using this.symm
  rw [open_ok N hN (by omega) (by omega), ho]
  rfl
theorem returns_1 (N : Nat) (hN : 4611686018427387904 ≤ N) {d b : List UInt8} (codes : List UInt8) (at_ by_ : UInt8) (hd : d.length ≤ 300) (hb : b.length ≤ 300) : law12_AeadReturns_1 N d b codes at_ by_ false = some ((true, ()), ()) := by
  unfold law12_AeadReturns_1
  obtain ⟨c0, e0, k0⟩ := new_ok N codes (m := 60) (by omega) (by omega)
  obtain ⟨c1, k, e1, l1, k1⟩ := bytes_ok (N := N) (n := 32) k0 (by omega) (by omega) (by omega)
  obtain ⟨c2, n, e2, l2, k2⟩ := bytes_ok (N := N) (n := 12) k1 (by omega) (by omega) (by omega)
  have hk : k.length = 32 := l1
  have hn : n.length = 12 := l2
  have hxl := cx_len k 1 n b
  have htl := atag_len k n d (cx k 1 n b)
  have hsl : (cx k 1 n b ++ atag k n d (cx k 1 n b)).length = b.length + 16 := by rw [List.length_append]; omega
  have hkd : keyed k n = true := keyed_iff.2 ⟨hk, hn⟩
  have ho : aopen k n d (cx k 1 n b ++ atag k n d (cx k 1 n b)) = (b, 0) := by
    unfold aopen
    rw [hkd, if_neg (by decide), if_neg (by omega), hsl, show b.length + 16 - 16 = b.length by omega, List.take_left' hxl, List.drop_left' hxl, if_pos rfl, cx_twice]
  have hop := open_ok N hN (k := k) (n := n) (d := d) (s := cx k 1 n b ++ atag k n d (cx k 1 n b)) (by omega) (by omega)
  rw [ho] at hop
  have hse := seal_ok N hN (k := k) (n := n) (d := d) (c := b) (by omega) (by omega) hk hn
  simp (disch := omega) only [dpos, dneg, w64_of, inR_of, room_of, tmod_of, cond_true, cond_false, Bool.and_self, Bool.and_true, Bool.true_and, Bool.and_false, Bool.false_and, Bool.not_true, Bool.not_false, Option.bind_some, List.length_cons, List.length_nil, Nat.zero_add, e0, e1, e2, hse, hop, equal_ok, decide_true]
  unfold law12_AeadReturns_2
  by_cases hz : by_ = 0
  · simp only [cond_false, hz, decide_true, cond_true]
    exact returns_3 N hN at_ 1 hd hb hk hn (by decide)
  · rw [dneg hz]
    exact returns_3 N hN at_ by_ hd hb hk hn hz
theorem returns (d : List UInt8) (hd : d.length ≤ 9223372036854775807) (b : List UInt8) (hb : b.length ≤ 9223372036854775807) (codes : List UInt8) (hc : codes.length ≤ 9223372036854775807) (at_ by_ : UInt8) :
    law12_AeadReturns 18446744073709551616 d b codes at_ by_ = some ((true, ()), ()) := by
  unfold law12_AeadReturns
  rw [awake12]
  generalize hN0 : 18446744073709551616 = N
  have hN : 4611686018427387904 ≤ N := by omega
  clear hN0
  simp only [dpos, dneg, w64_of, inR_of, room_of, tmod_of, cond_true, cond_false, Bool.and_self, Bool.and_true, Bool.true_and, Bool.and_false, Bool.false_and, Bool.not_true, Bool.not_false, Option.bind_some, List.length_cons, List.length_nil, Nat.zero_add]
  by_cases c1 : (300 : Int) < (b.length : Int)
  · unfold law12_AeadReturns_1; simp (disch := omega) only [dpos, dneg, w64_of, inR_of, room_of, tmod_of, cond_true, cond_false, Bool.and_self, Bool.and_true, Bool.true_and, Bool.and_false, Bool.false_and, Bool.not_true, Bool.not_false, Option.bind_some, List.length_cons, List.length_nil, Nat.zero_add]
  · by_cases c2 : (300 : Int) < (d.length : Int)
    · unfold law12_AeadReturns_1; simp (disch := omega) only [dpos, dneg, w64_of, inR_of, room_of, tmod_of, cond_true, cond_false, Bool.and_self, Bool.and_true, Bool.true_and, Bool.and_false, Bool.false_and, Bool.not_true, Bool.not_false, Option.bind_some, List.length_cons, List.length_nil, Nat.zero_add]
    · rw [dneg c1, dneg c2]
      exact returns_1 N hN codes at_ by_ (by omega) (by omega)
end Go.Proofs.YtlamdneheilahaaDoor.Pl
