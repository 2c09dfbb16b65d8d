/- Plain: what is seen of the bytes of a packet whose parts are known. -/
import Derived.Test.YtgbkkfpheahdfaaLsQBuild
import Derived.Test.YtgbkkfpheahdfaaLsQBe
import Derived.Test.YtgbkkfpheahdfaaLsQSumZ
import Derived.Test.YtgbkkfpheahdfaaFnsLookupSeesA
set_option linter.unusedVariables false
set_option linter.unusedSimpArgs false
namespace Go.Proofs.Ytgbkkfpheahdfaa.Pl
open Go
abbrev Seen := Pkt × (Int × (Bool × (Bool × (Int × Unit))))
theorem mid {P A S : List UInt8} {k w : Nat} (hP : P.length = k) (hA : A.length = w) : ((P ++ (A ++ S)).drop k).take w = A := by
  subst hP; subst hA
  rw [List.drop_left, List.take_left]
theorem ports_non (N : Nat) {b : List UInt8} (a c : Ad) {q : Int} (hd : Int) (h6 : q ≠ 6) (h17 : q ≠ 17) (h1 : q ≠ 1) (h58 : q ≠ 58) :
    lookup_cursor_ports N (b, ()) ((a, c, q, 0, 0, ()), 0, false, false, hd, ()) = some ((), (((a, c, q, -1, -1, ()), 0, false, false, hd, ()), ())) := by
  unfold lookup_cursor_ports
  simp only [decide_true, Bool.not_true, cond_false, dneg h6, dneg h17, dneg h1, dneg h58]
section
variable (N : Nat) (hN : 4611686018427387904 ≤ N)
include hN
theorem num_at {b P A S : List UInt8} (hb : b = P ++ (A ++ S)) {k w : Nat} (hP : P.length = k) (hA : A.length = w) (h1 : 1 ≤ w) (h8 : w ≤ 8) (hl : b.length ≤ 1000000) : lookup_cursor_number N (b, ()) (k : Int) (w : Int) = some ((nbr A, ()), ()) := by
  unfold lookup_cursor_number
  have hlen : b.length = k + (w + S.length) := by rw [hb, List.length_append, List.length_append, hP, hA]
  have e := wire_number N (b := b) (at_ := (k : Int)) (w := (w : Int)) (by omega) (by omega) (by omega) (by omega) (by omega) (by omega)
  simp only [Int.toNat_natCast] at e
  rw [e, hb, mid hP hA]
  rfl
theorem int_at {b P A S : List UInt8} (hb : b = P ++ (A ++ S)) {k w : Nat} (hP : P.length = k) (hA : A.length = w) (h1 : 1 ≤ w) (h8 : w ≤ 2) (hl : b.length ≤ 1000000) : lookup_cursor_int N (b, ()) (k : Int) (w : Int) = some ((((nbr A).toNat : Int), ()), ()) := by
  unfold lookup_cursor_int
  rw [num_at N hN hb hP hA h1 (by omega) hl, Option.bind_some]
  have h := nbr_lt (by omega) hA
  have h2 : 256 ^ w ≤ 256 ^ 2 := Nat.pow_le_pow_right (by decide) h8
  show some ((w64 ((nbr A).toNat : Int), ()), ()) = _
  rw [w64_of (by omega) (by omega)]
/-- The ports of a packet that carries them. -/
theorem ports_tcp {b P X Y S : List UInt8} (hb : b = P ++ (X ++ (Y ++ S))) {hd : Nat} (hP : P.length = hd) (hX : X.length = 2) (hY : Y.length = 2) (hl : b.length ≤ 1000000) (a c : Ad) {q : Int} (hq : q = 6 ∨ q = 17) :
    lookup_cursor_ports N (b, ()) ((a, c, q, 0, 0, ()), 0, false, false, (hd : Int), ()) = some ((), (((a, c, q, ((nbr X).toNat : Int), ((nbr Y).toNat : Int), ()), 0, false, false, (hd : Int), ()), ())) := by
  have hlen : b.length = hd + (2 + (2 + S.length)) := by rw [hb]; simp only [List.length_append, hP, hX, hY]
  have e1 := int_at N hN hb hP hX (by omega) (by omega) hl
  have e2 := int_at N hN (b := b) (P := P ++ X) (A := Y) (S := S) (k := hd + 2) (w := 2) (by rw [hb, List.append_assoc]) (by rw [List.length_append, hP, hX]) hY (by omega) (by omega) hl
  have e1' : lookup_cursor_int N (b, ()) (hd : Int) 2 = _ := e1
  have e2' : lookup_cursor_int N (b, ()) ((hd : Int) + 2) 2 = _ := e2
  unfold lookup_cursor_ports
  have hw : w64 ((b.length : Int) - (hd : Int)) = (b.length : Int) - (hd : Int) := w64_of (by omega) (by omega)
  have hw2 : w64 ((hd : Int) + 2) = (hd : Int) + 2 := w64_of (by omega) (by omega)
  simp only [decide_true, Bool.not_true, cond_false, hw, hw2, e1', e2', Option.bind_some, dpos (show (4 : Int) ≤ (b.length : Int) - (hd : Int) by omega), cond_true]
  rcases hq with rfl | rfl
  · rfl
  · rfl
/-- The family 6. -/
theorem see6 {L A B C D x : List UInt8} {q : UInt8} (hL : L.length = 2) (hA : A.length = 8) (hB : B.length = 8) (hC : C.length = 8) (hD : D.length = 8) (hx : x.length ≤ 1000) (hlen : (nbr L).toNat = x.length) (hq : q ≠ 44) {k : Pkt}
    (hp : lookup_cursor_ports N ([96, 0, 0, 0] ++ (L ++ ([q, 64] ++ (A ++ (B ++ (C ++ (D ++ x)))))), ()) (((6, nbr A, nbr B, ()), (6, nbr C, nbr D, ()), (q.toNat : Int), 0, 0, ()), 0, false, false, 40, ()) = some ((), ((k, 0, false, false, 40, ()), ()))) :
    lookup_See N ([96, 0, 0, 0] ++ (L ++ ([q, 64] ++ (A ++ (B ++ (C ++ (D ++ x))))))) = some (((k, 0, false, false, 40, ()), 0, ()), ()) := by
  obtain ⟨l1, l0, rfl⟩ : ∃ a b, L = [a, b] := by
    match L, hL with
    | [a, b], _ => exact ⟨a, b, rfl⟩
  generalize hb : ([96, 0, 0, 0] ++ ([l1, l0] ++ ([q, 64] ++ (A ++ (B ++ (C ++ (D ++ x)))))) : List UInt8) = b at hp ⊢
  have hbl : b.length = 40 + x.length := by rw [← hb]; simp only [List.length_append, List.length_cons, List.length_nil, hA, hB, hC, hD]; omega
  have g0 : b.getD 0 0 = 96 := by rw [← hb]; rfl
  have g6 : b.getD 6 0 = q := by rw [← hb]; rfl
  have n1 := int_at N hN (b := b) (P := [96, 0, 0, 0]) (A := [l1, l0]) hb.symm (k := 4) (w := 2) rfl rfl (by omega) (by omega) (by omega)
  have n2 := int_at N hN (b := b) (P := [96, 0, 0, 0, l1, l0]) (A := [q]) (S := [64] ++ (A ++ (B ++ (C ++ (D ++ x))))) (by rw [← hb]; rfl) (k := 6) (w := 1) rfl rfl (by omega) (by omega) (by omega)
  have m1 := num_at N hN (b := b) (P := [96, 0, 0, 0, l1, l0, q, 64]) (A := A) (S := B ++ (C ++ (D ++ x))) (by rw [← hb]; rfl) (k := 8) (w := 8) rfl hA (by omega) (by omega) (by omega)
  have m2 := num_at N hN (b := b) (P := [96, 0, 0, 0, l1, l0, q, 64] ++ A) (A := B) (S := C ++ (D ++ x)) (by rw [← hb, List.append_assoc]; rfl) (k := 16) (w := 8) (by rw [List.length_append, hA]; rfl) hB (by omega) (by omega) (by omega)
  have m3 := num_at N hN (b := b) (P := [96, 0, 0, 0, l1, l0, q, 64] ++ (A ++ B)) (A := C) (S := D ++ x) (by rw [← hb, List.append_assoc, List.append_assoc]; rfl) (k := 24) (w := 8) (by rw [List.length_append, List.length_append, hA, hB]; rfl) hC (by omega) (by omega) (by omega)
  have m4 := num_at N hN (b := b) (P := [96, 0, 0, 0, l1, l0, q, 64] ++ (A ++ (B ++ C))) (A := D) (S := x) (by rw [← hb, List.append_assoc, List.append_assoc, List.append_assoc]; rfl) (k := 32) (w := 8) (by rw [List.length_append, List.length_append, List.length_append, hA, hB, hC]; rfl) hD (by omega) (by omega) (by omega)
  have n1' : lookup_cursor_int N (b, ()) 4 2 = some (((x.length : Int), ()), ()) := by rw [← hlen]; exact n1
  have hq1 : (nbr [q]).toNat = q.toNat := by rw [nbr_nat (n := 1) rfl (by omega)]; show 0 * 256 + q.toNat = _; omega
  have n2' : lookup_cursor_int N (b, ()) 6 1 = some (((q.toNat : Int), ()), ()) := by rw [← hq1]; exact n2
  have m1' : lookup_cursor_number N (b, ()) 8 8 = _ := m1
  have m2' : lookup_cursor_number N (b, ()) 16 8 = _ := m2
  have m3' : lookup_cursor_number N (b, ()) 24 8 = _ := m3
  have m4' : lookup_cursor_number N (b, ()) 32 8 = _ := m4
  have f1 : lookup_six_see_f1 N 8 (b, ()) = some (((6, nbr A, nbr B, ()), ()), ()) := by
    unfold lookup_six_see_f1
    rw [m1', Option.bind_some, show w64 ((8 : Int) + 8) = 16 from w64_of (by omega) (by omega), m2']; rfl
  have f2 : lookup_six_see_f1 N 24 (b, ()) = some (((6, nbr C, nbr D, ()), ()), ()) := by
    unfold lookup_six_see_f1
    rw [m3', Option.bind_some, show w64 ((24 : Int) + 8) = 32 from w64_of (by omega) (by omega), m4']; rfl
  have hq44 : ¬ (q.toNat : Int) = 44 := fun e => hq (UInt8.toNat_inj.1 (by show q.toNat = 44; omega))
  have sv : lookup_six_see N () (b, ()) = some (((((6, nbr A, nbr B, ()), (6, nbr C, nbr D, ()), (q.toNat : Int), 0, 0, ()), 0, false, false, 40, ()), 0, ()), ()) := by
    unfold lookup_six_see
    rw [n1', Option.bind_some]
    simp only [w64_of (show -9223372036854775808 ≤ (x.length : Int) + 40 by omega) (by omega), dpos (show (x.length : Int) + 40 = (b.length : Int) by omega), Bool.not_true, cond_false, f1, f2, n2', Option.bind_some, dneg hq44]
  have sl : lookup_six_least N () (b, ()) = some ((40, ()), ()) := by
    unfold lookup_six_least
    simp only [dpos (show (6 : Int) < (b.length : Int) by omega), cond_true, inR_of (show (0 : Int) ≤ 6 by omega) (show (6 : Int) < (b.length : Int) by omega), g6, dneg hq, cond_false]
  unfold lookup_See
  rw [dneg (show ¬ (b.length : Int) = 0 by omega), cond_false, inR_of (by omega) (by omega), cond_true, g0]
  simp only [dneg (show ¬ shr8 (96 : UInt8) 4 = 4 by decide), dpos (show shr8 (96 : UInt8) 4 = 6 by decide), cond_false, cond_true, sl, sv, Option.bind_some, dneg (show ¬ (b.length : Int) < 40 by omega), decide_true, Bool.not_true, dneg (show ¬ (4096 : Int) < (b.length : Int) by omega), hp]
/-- The family 4. -/
theorem see4 {l1 l0 q h l a3 a2 a1 a0 b3 b2 b1 b0 : UInt8} {x : List UInt8} (hx : x.length ≤ 1000) (hlen : (nbr [l1, l0]).toNat = 20 + x.length) {k : Pkt} (hc : wire_Checksum N (hd4 l1 l0 q h l a3 a2 a1 a0 b3 b2 b1 b0) = some ((0, ()), ()))
    (hp : lookup_cursor_ports N (hd4 l1 l0 q h l a3 a2 a1 a0 b3 b2 b1 b0 ++ x, ()) (((4, 0, nbr [a3, a2, a1, a0], ()), (4, 0, nbr [b3, b2, b1, b0], ()), (q.toNat : Int), 0, 0, ()), 0, false, false, 20, ()) = some ((), ((k, 0, false, false, 20, ()), ()))) :
    lookup_See N (hd4 l1 l0 q h l a3 a2 a1 a0 b3 b2 b1 b0 ++ x) = some (((k, 0, false, false, 20, ()), 0, ()), ()) := by
  generalize hb : hd4 l1 l0 q h l a3 a2 a1 a0 b3 b2 b1 b0 ++ x = b at hp ⊢
  have hbl : b.length = 20 + x.length := by rw [← hb, List.length_append]; rfl
  have g0 : b.getD 0 0 = 69 := by rw [← hb]; rfl
  have n1 := int_at N hN (b := b) (P := [69, 0]) (A := [l1, l0]) (S := [0, 0, 0, 0, 64, q, h, l, a3, a2, a1, a0, b3, b2, b1, b0] ++ x) (by rw [← hb]; rfl) (k := 2) (w := 2) rfl rfl (by omega) (by omega) (by omega)
  have n2 := int_at N hN (b := b) (P := [69, 0, l1, l0, 0, 0]) (A := [0, 0]) (S := [64, q, h, l, a3, a2, a1, a0, b3, b2, b1, b0] ++ x) (by rw [← hb]; rfl) (k := 6) (w := 2) rfl rfl (by omega) (by omega) (by omega)
  have n3 := int_at N hN (b := b) (P := [69, 0, l1, l0, 0, 0, 0, 0, 64]) (A := [q]) (S := [h, l, a3, a2, a1, a0, b3, b2, b1, b0] ++ x) (by rw [← hb]; rfl) (k := 9) (w := 1) rfl rfl (by omega) (by omega) (by omega)
  have m1 := num_at N hN (b := b) (P := [69, 0, l1, l0, 0, 0, 0, 0, 64, q, h, l]) (A := [a3, a2, a1, a0]) (S := [b3, b2, b1, b0] ++ x) (by rw [← hb]; rfl) (k := 12) (w := 4) rfl rfl (by omega) (by omega) (by omega)
  have m2 := num_at N hN (b := b) (P := [69, 0, l1, l0, 0, 0, 0, 0, 64, q, h, l, a3, a2, a1, a0]) (A := [b3, b2, b1, b0]) (S := x) (by rw [← hb]; rfl) (k := 16) (w := 4) rfl rfl (by omega) (by omega) (by omega)
  have hq1 : (nbr [q]).toNat = q.toNat := by rw [nbr_nat (n := 1) rfl (by omega)]; show 0 * 256 + q.toNat = _; omega
  have n1' : lookup_cursor_int N (b, ()) 2 2 = some (((b.length : Int), ()), ()) := by
    have e : ((nbr [l1, l0]).toNat : Int) = (b.length : Int) := by omega
    rw [← e]; exact n1
  have n2' : lookup_cursor_int N (b, ()) 6 2 = some ((0, ()), ()) := n2
  have n3' : lookup_cursor_int N (b, ()) 9 1 = some (((q.toNat : Int), ()), ()) := by rw [← hq1]; exact n3
  have m1' : lookup_cursor_number N (b, ()) 12 4 = _ := m1
  have m2' : lookup_cursor_number N (b, ()) 16 4 = _ := m2
  have hcut : cut b 0 20 = hd4 l1 l0 q h l a3 a2 a1 a0 b3 b2 b1 b0 := by rw [← hb]; rfl
  have hn : w64 ((((69 : UInt8) &&& 15).toNat : Int) * 4) = 20 := by rw [show (((69 : UInt8) &&& 15).toNat : Int) = 5 from rfl]; exact w64_of (by omega) (by omega)
  have sv : lookup_four_see N () (b, ()) = some (((((4, 0, nbr [a3, a2, a1, a0], ()), (4, 0, nbr [b3, b2, b1, b0], ()), (q.toNat : Int), 0, 0, ()), 0, false, false, 20, ()), 0, ()), ()) := by
    unfold lookup_four_see
    simp only [inR_of (show (0 : Int) ≤ 0 by omega) (show (0 : Int) < (b.length : Int) by omega), cond_true, g0, hn, dneg (show ¬ (20 : Int) < 20 by omega), cond_false, dneg (show ¬ (b.length : Int) < 20 by omega), n1', Option.bind_some, decide_true, Bool.not_true]
    unfold lookup_four_see_1
    simp only [cond_false, dpos (show (0 : Int) ≤ 0 by omega), dpos (show (0 : Int) ≤ 20 by omega), dpos (show (20 : Int) ≤ (b.length : Int) by omega), Bool.and_self, cond_true, show ((20 : Int)).toNat = 20 from rfl, hcut, hc, Option.bind_some, decide_true, Bool.not_true, n2', n3', m1', m2']
    rfl
  unfold lookup_See lookup_four_least
  rw [dneg (show ¬ (b.length : Int) = 0 by omega), cond_false, inR_of (by omega) (by omega), cond_true, g0]
  simp only [dpos (show shr8 (69 : UInt8) 4 = 4 by decide), cond_true, Option.bind_some, dneg (show ¬ (b.length : Int) < 20 by omega), cond_false, sv, decide_true, Bool.not_true, dneg (show ¬ (4096 : Int) < (b.length : Int) by omega), hp]
end
end Go.Proofs.Ytgbkkfpheahdfaa.Pl
