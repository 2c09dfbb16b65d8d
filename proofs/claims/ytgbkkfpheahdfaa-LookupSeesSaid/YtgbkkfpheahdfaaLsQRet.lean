/- Plain: the law LookupReturns. -/
import Derived.Test.YtgbkkfpheahdfaaLsQSeeB
import Derived.Test.YtgbkkfpheahdfaaLsQCodes
import Derived.Test.YtgbkkfpheahdfaaFnsLookupSeesB
set_option linter.unusedVariables false
set_option linter.unusedSimpArgs false
namespace Go.Proofs.Ytgbkkfpheahdfaa.Pl
open Go
theorem awake22r : law22_awake 18446744073709551616 = some ((true, ()), ()) := by kernel_rfl
theorem iu64_n {n : Nat} (h : n < 18446744073709551616) : (iu64 (n : Int)).toNat = n := by
  unfold iu64
  show (BitVec.ofInt 64 (n : Int)).toNat = _
  rw [BitVec.toNat_ofInt]; omega
theorem rdqL {α : Type} {f : α → α → Bool} (h : ∀ x, f x x = true) : ∀ l : List α, dqL f l l = true
  | [] => rfl
  | x :: l => by simp only [dqL, h x, rdqL h l, Bool.and_self]
theorem rdq : ∀ (t : Ty) (x : t.den), t.flat = true → dq t x x = true := by
  intro t
  induction t with
  | sl t ih => intro x h; simp [Ty.flat] at h
  | arr n t ih => intro x h; exact rdqL (fun y => ih y (by simpa [Ty.flat] using h)) x
  | pair a b iha ihb =>
    intro x h
    simp only [Ty.flat, Bool.and_eq_true] at h
    simp only [dq, iha _ h.1, ihb _ h.2, Bool.and_self]
  | unit => intro x _; rfl
  | _ => intro x _; simp only [dq, decide_true]
theorem two_of {L : List UInt8} (h : L.length = 2) : ∃ a b, L = [a, b] := by
  match L, h with
  | [a, b], _ => exact ⟨a, b, rfl⟩
theorem four_of {L : List UInt8} (h : L.length = 4) : ∃ a b c d, L = [a, b, c, d] := by
  match L, h with
  | [a, b, c, d], _ => exact ⟨a, b, c, d, rfl⟩
theorem four_more {L : List UInt8} (h : 4 ≤ L.length) : ∃ a b c d S, L = a :: b :: c :: d :: S := by
  match L, h with
  | a :: b :: c :: d :: S, _ => exact ⟨a, b, c, d, S, rfl⟩
theorem port_nbr {s : Int} (h0 : 0 ≤ s) (h1 : s ≤ 65535) : ((nbr [iu8 (shrI s 8), iu8 s]).toNat : Int) = s := by
  rw [nbr_nat (n := 2) rfl (by omega)]
  show ((((0 * 256 + (iu8 (shrI s 8)).toNat) * 256 + (iu8 s).toNat : Nat)) : Int) = s
  have e1 := iu8_nat (shrI s 8)
  have e2 := iu8_nat s
  rw [shr8i] at e1
  rw [shr8i]
  omega
/-- What a packet must be to come back. -/
structure RetOk (p : Pkt) : Prop where
  v1 : lval p.1 = true
  v2 : lval p.2.1 = true
  fam : p.1.1 = p.2.1.1
  pr : 0 ≤ p.2.2.1 ∧ p.2.2.1 ≤ 255 ∧ p.2.2.1 ≠ 44 ∧ p.2.2.1 ≠ 1 ∧ p.2.2.1 ≠ 58
  pt : if p.2.2.1 = 6 ∨ p.2.2.1 = 17 then (0 ≤ p.2.2.2.1 ∧ p.2.2.2.1 ≤ 65535 ∧ 0 ≤ p.2.2.2.2.1 ∧ p.2.2.2.2.1 ≤ 65535) else (p.2.2.2.1 = -1 ∧ p.2.2.2.2.1 = -1)
/-- The bytes behind the head. -/
theorem ret_x {p : Pkt} (h : RetOk p) {d : List UInt8} (hd : 4 ≤ d.length) : ∃ X Y S, trn (tcpB p) p.2.2.2.1 p.2.2.2.2.1 d = some (X ++ (Y ++ S)) ∧ X.length = 2 ∧ Y.length = 2 ∧ (X ++ (Y ++ S)).length = d.length ∧
    (p.2.2.1 = 6 ∨ p.2.2.1 = 17 → ((nbr X).toNat : Int) = p.2.2.2.1 ∧ ((nbr Y).toNat : Int) = p.2.2.2.2.1) := by
  obtain ⟨d0, d1, d2, d3, S, rfl⟩ := four_more hd
  have hpt := h.pt
  unfold trn tcpB
  by_cases ht : p.2.2.1 = 6 ∨ p.2.2.1 = 17
  · rw [if_pos ht] at hpt
    obtain ⟨s0, s1, t0, t1⟩ := hpt
    have hb : (decide (p.2.2.1 = 6) || decide (p.2.2.1 = 17)) = true := by
      rcases ht with ht | ht
      · rw [dpos ht, Bool.true_or]
      · rw [dpos ht, Bool.or_true]
    rw [hb, if_pos rfl, if_neg (by omega), if_neg (by simp only [List.length_cons]; omega)]
    refine ⟨[iu8 (shrI p.2.2.2.1 8), iu8 p.2.2.2.1], [iu8 (shrI p.2.2.2.2.1 8), iu8 p.2.2.2.2.1], S, ?_, rfl, rfl, rfl, fun _ => ⟨port_nbr s0 s1, port_nbr t0 t1⟩⟩
    unfold put1 put2
    rw [if_neg (by omega), if_neg (by omega)]
    rfl
  · rw [dneg (show ¬ p.2.2.1 = 6 by omega), dneg (show ¬ p.2.2.1 = 17 by omega)]
    exact ⟨[d0, d1], [d2, d3], S, rfl, rfl, rfl, rfl, fun h => absurd h ht⟩
section
variable (N : Nat) (hN : 4611686018427387904 ≤ N)
include hN
theorem lb6 (p : Pkt) {x : List UInt8} (hx : x.length ≤ 1000) :
    lookup_Build_2 N true 40 p x = some ((0, ()), ([96, 0, 0, 0] ++ (be (iu64 (x.length : Int)) 2 ++ ([iu8 p.2.2.1, 64] ++ (be p.1.2.1 8 ++ (be p.1.2.2.1 8 ++ (be p.2.1.2.1 8 ++ (be p.2.1.2.2.1 8 ++ x)))))), ())) := by
  unfold lookup_Build_2
  have e : w64 (40 + (x.length : Int)) = 40 + (x.length : Int) := w64_of (by omega) (by omega)
  rw [e, dneg (show ¬ (4096 : Int) < 40 + (x.length : Int) by omega), cond_false]
  unfold lookup_Build_3 lookup_Build_5
  simp only [cond_true]
  have p1 : wire_Put N (iu64 (x.length : Int)) 2 [96, 0, 0, 0] = some ((), ([96, 0, 0, 0] ++ be (iu64 (x.length : Int)) 2, ())) := wire_put N (by omega) (by omega) (by simp) (by omega)
  rw [p1]
  simp only [Option.bind_some]
  have l0 : ([96, 0, 0, 0] ++ be (iu64 (x.length : Int)) 2 : List UInt8).length = 6 := by rw [List.length_append, be_len]; rfl
  have l1 : (([96, 0, 0, 0] ++ be (iu64 (x.length : Int)) 2 : List UInt8) ++ [iu8 p.2.2.1, 64]).length = 8 := by rw [List.length_append, l0]; rfl
  have hr : room (([96, 0, 0, 0] ++ be (iu64 (x.length : Int)) 2 : List UInt8).length + ([iu8 p.2.2.1, 64] : List UInt8).length) 1 = true := room_of (by rw [l0]; simp only [List.length_cons, List.length_nil]; omega)
  rw [hr]
  simp only [cond_true]
  have assoc : ∀ (B Q a b c d y : List UInt8), ([96, 0, 0, 0] ++ B ++ Q) ++ a ++ b ++ c ++ d ++ y = [96, 0, 0, 0] ++ (B ++ (Q ++ (a ++ (b ++ (c ++ (d ++ y)))))) := by intro B Q a b c d y; simp only [List.append_assoc]
  rw [← assoc]
  generalize ([96, 0, 0, 0] ++ be (iu64 (x.length : Int)) 2 : List UInt8) ++ [iu8 p.2.2.1, 64] = C at *
  have l3 : (C ++ be p.1.2.1 8 ++ be p.1.2.2.1 8 ++ be p.2.1.2.1 8 ++ be p.2.1.2.2.1 8).length = 40 := by simp only [List.length_append, be_len, l1]
  have l2 : (C ++ be p.1.2.1 8 ++ be p.1.2.2.1 8).length = 24 := by simp only [List.length_append, be_len, l1]
  have st : ∀ (i : Nat) (b : List UInt8) (a : Ad), i < 2 → b.length ≤ 1000 → ([p.1, p.2.1] : List Ad).getD i (0, 0, 0, ()) = a → lookup_Build_s7 N 2 (i : Int) x b [p.1, p.2.1] = some (.go ((2, ((i + 1 : Nat) : Int), ()), (x, b ++ be a.2.1 8 ++ be a.2.2.1 8, [p.1, p.2.1], ()))) := by
    intro i b a hi hb ha
    unfold lookup_Build_s7
    have q1 : wire_Put N a.2.1 8 b = some ((), (b ++ be a.2.1 8, ())) := wire_put N (by omega) (by omega) (by omega) (by omega)
    have q2 : wire_Put N a.2.2.1 8 (b ++ be a.2.1 8) = some ((), (b ++ be a.2.1 8 ++ be a.2.2.1 8, ())) := wire_put N (by omega) (by omega) (by rw [List.length_append, be_len]; omega) (by omega)
    have hr : inR (i : Int) ([p.1, p.2.1] : List Ad).length = true := inR_of (by omega) (by show (i : Int) < 2; omega)
    have hw : w64 ((i : Int) + 1) = ((i + 1 : Nat) : Int) := by rw [w64_of (by omega) (by omega)]; rfl
    rw [dpos (show ((i : Nat) : Int) < 2 by omega), hr]
    simp only [cond_true, Int.toNat_natCast, ha, q1, q2, Option.bind_some, hw]
  have lp : lookup_Build_6 N 2 0 x C [p.1, p.2.1] = lookup_Build_8 N x (C ++ be p.1.2.1 8 ++ be p.1.2.2.1 8 ++ be p.2.1.2.1 8 ++ be p.2.1.2.2.1 8) := by
    obtain ⟨M, rfl⟩ : ∃ M, N = M + 3 := ⟨N - 3, by omega⟩
    unfold lookup_Build_6
    have s0 := st 0 C p.1 (by omega) (by omega) rfl
    have s1 := st 1 (C ++ be p.1.2.1 8 ++ be p.1.2.2.1 8) p.2.1 (by omega) (by omega) rfl
    rw [loopK_succ]
    show Option.bind (lookup_Build_s7 (M + 3) 2 ((0 : Nat) : Int) x C [p.1, p.2.1]) _ = _
    rw [s0, Option.bind_some]
    show loopK (M + 2) _ _ _ = _
    rw [loopK_succ]
    show Option.bind (lookup_Build_s7 (M + 3) 2 ((1 : Nat) : Int) x _ [p.1, p.2.1]) _ = _
    rw [s1, Option.bind_some]
    show loopK (M + 1) _ _ _ = _
    rw [loopK_succ]
    rfl
  refine lp.trans ?_
  unfold lookup_Build_8
  rw [room_of (by rw [l3]; omega)]; rfl
theorem lb4 (p : Pkt) {x : List UInt8} (hx : x.length ≤ 1000) : ∃ l1 l0 a3 a2 a1 a0 b3 b2 b1 b0 v, be (iu64 (20 + (x.length : Int))) 2 = [l1, l0] ∧ be p.1.2.2.1 4 = [a3, a2, a1, a0] ∧ be p.2.1.2.2.1 4 = [b3, b2, b1, b0] ∧
    wire_Checksum N (hd4 l1 l0 (iu8 p.2.2.1) (iu8 (shrI v 8)) (iu8 v) a3 a2 a1 a0 b3 b2 b1 b0) = some ((0, ()), ()) ∧
    lookup_Build_2 N false 20 p x = some ((0, ()), (hd4 l1 l0 (iu8 p.2.2.1) (iu8 (shrI v 8)) (iu8 v) a3 a2 a1 a0 b3 b2 b1 b0 ++ x, ())) := by
  obtain ⟨l1, l0, eL⟩ := two_of (be_len (iu64 (20 + (x.length : Int))) 2)
  obtain ⟨a3, a2, a1, a0, eA⟩ := four_of (be_len p.1.2.2.1 4)
  obtain ⟨b3, b2, b1, b0, eB⟩ := four_of (be_len p.2.1.2.2.1 4)
  obtain ⟨v, c1, c2⟩ := sum4 N hN l1 l0 (iu8 p.2.2.1) a3 a2 a1 a0 b3 b2 b1 b0
  refine ⟨l1, l0, a3, a2, a1, a0, b3, b2, b1, b0, v, eL, eA, eB, c2, ?_⟩
  unfold lookup_Build_2
  have e : w64 (20 + (x.length : Int)) = 20 + (x.length : Int) := w64_of (by omega) (by omega)
  rw [e, dneg (show ¬ (4096 : Int) < 20 + (x.length : Int) by omega), cond_false]
  unfold lookup_Build_3 lookup_Build_9
  simp only [cond_false]
  rw [e]
  have p1 : wire_Put N (iu64 (20 + (x.length : Int))) 2 [69, 0] = some ((), ([69, 0] ++ be (iu64 (20 + (x.length : Int))) 2, ())) := wire_put N (by omega) (by omega) (by simp) (by omega)
  rw [p1, eL]
  simp only [Option.bind_some]
  rw [room_of (by simp only [List.length_append, List.length_cons, List.length_nil]; omega), cond_true]
  have q1 : wire_Put N p.1.2.2.1 4 ([69, 0] ++ [l1, l0] ++ [0, 0, 0, 0, 64, iu8 p.2.2.1, 0, 0]) = some ((), ([69, 0] ++ [l1, l0] ++ [0, 0, 0, 0, 64, iu8 p.2.2.1, 0, 0] ++ be p.1.2.2.1 4, ())) := wire_put N (by omega) (by omega) (by simp) (by omega)
  rw [q1, eA]
  simp only [Option.bind_some]
  have q2 : wire_Put N p.2.1.2.2.1 4 ([69, 0] ++ [l1, l0] ++ [0, 0, 0, 0, 64, iu8 p.2.2.1, 0, 0] ++ [a3, a2, a1, a0]) = some ((), ([69, 0] ++ [l1, l0] ++ [0, 0, 0, 0, 64, iu8 p.2.2.1, 0, 0] ++ [a3, a2, a1, a0] ++ be p.2.1.2.2.1 4, ())) := wire_put N (by omega) (by omega) (by simp) (by omega)
  rw [q2, eB]
  simp only [Option.bind_some]
  have hD : ([69, 0] ++ [l1, l0] ++ [0, 0, 0, 0, 64, iu8 p.2.2.1, 0, 0] ++ [a3, a2, a1, a0] ++ [b3, b2, b1, b0] : List UInt8) = hd4 l1 l0 (iu8 p.2.2.1) 0 0 a3 a2 a1 a0 b3 b2 b1 b0 := rfl
  rw [hD, c1]
  simp only [Option.bind_some]
  rw [show inR (10 : Int) (hd4 l1 l0 (iu8 p.2.2.1) 0 0 a3 a2 a1 a0 b3 b2 b1 b0).length = true from rfl, cond_true,
    show inR (11 : Int) ((hd4 l1 l0 (iu8 p.2.2.1) 0 0 a3 a2 a1 a0 b3 b2 b1 b0).set 10 (iu8 (shrI v 8))).length = true from rfl, cond_true]
  have hl : (((hd4 l1 l0 (iu8 p.2.2.1) 0 0 a3 a2 a1 a0 b3 b2 b1 b0).set 10 (iu8 (shrI v 8))).set 11 (iu8 v)).length = 20 := rfl
  rw [room_of (by rw [hl]; omega), cond_true]
  rfl
theorem ret_ports {p : Pkt} (h : RetOk p) {P X Y S : List UInt8} {hd : Nat} (hP : P.length = hd) (hX : X.length = 2) (hY : Y.length = 2) (hl : (P ++ (X ++ (Y ++ S))).length ≤ 1000000)
    (hp : p.2.2.1 = 6 ∨ p.2.2.1 = 17 → ((nbr X).toNat : Int) = p.2.2.2.1 ∧ ((nbr Y).toNat : Int) = p.2.2.2.2.1) :
    lookup_cursor_ports N (P ++ (X ++ (Y ++ S)), ()) ((p.1, p.2.1, p.2.2.1, 0, 0, ()), 0, false, false, (hd : Int), ()) = some ((), ((p, 0, false, false, (hd : Int), ()), ())) := by
  have hpt := h.pt
  obtain ⟨q0, q1, q44, q1', q58⟩ := h.pr
  by_cases ht : p.2.2.1 = 6 ∨ p.2.2.1 = 17
  · obtain ⟨e1, e2⟩ := hp ht
    rw [ports_tcp N hN rfl hP hX hY hl p.1 p.2.1 ht, e1, e2]
  · rw [if_neg ht] at hpt
    obtain ⟨e1, e2⟩ := hpt
    rw [ports_non N p.1 p.2.1 (hd : Int) (by omega) (by omega) q1' q58]
    obtain ⟨a, b, c, s, t, u⟩ := p
    simp only at e1 e2
    rw [e1, e2]
theorem ret_build {p : Pkt} (h : RetOk p) {d : List UInt8} (hd : d.length ≤ 1000) {x : List UInt8} (hx : trn (tcpB p) p.2.2.2.1 p.2.2.2.2.1 d = some x) :
    lookup_Build N p d = bif decide (p.1.1 = 6) then lookup_Build_2 N (decide (p.1.1 = 6)) 40 p x else lookup_Build_2 N (decide (p.1.1 = 6)) 20 p x := by
  obtain ⟨q0, q1, q44, q1', q58⟩ := h.pr
  have hpt := h.pt
  have s1 : prt p.2.2.2.1 = true := by
    unfold prt
    split at hpt <;> rw [dpos (by omega), dpos (by omega)] <;> rfl
  have s2 : prt p.2.2.2.2.1 = true := by
    unfold prt
    split at hpt <;> rw [dpos (by omega), dpos (by omega)] <;> rfl
  have core : lookup_Build_1 N d (decide (p.1.1 = 6)) p = bif decide (p.1.1 = 6) then lookup_Build_2 N (decide (p.1.1 = 6)) 40 p x else lookup_Build_2 N (decide (p.1.1 = 6)) 20 p x := by
    unfold lookup_Build_1
    rw [transport_ok N hN p (by omega), hx]
    rfl
  unfold lookup_Build
  simp only [svalid_ok, h.v1, h.v2, Option.bind_some, Bool.not_true, cond_false, dpos h.fam, dneg (show ¬ p.2.2.1 < 0 by omega), dneg (show ¬ 255 < p.2.2.1 by omega), dneg q44, lport_ok, s1, s2]
  rw [core]
  generalize (bif decide (p.1.1 = 6) then lookup_Build_2 N (decide (p.1.1 = 6)) 40 p x else lookup_Build_2 N (decide (p.1.1 = 6)) 20 p x) = Z
  cases decide (p.1.1 = 6) <;> rfl
theorem ret_4 {p : Pkt} (h : RetOk p) {d : List UInt8} (h4 : 4 ≤ d.length) (hd : d.length ≤ 900) : law22_LookupReturns_4 N p d = some ((true, ()), ()) := by
  obtain ⟨X, Y, S, hx, hX, hY, hlen, hports⟩ := ret_x h h4
  obtain ⟨q0, q1, q44, q1', q58⟩ := h.pr
  have hq : ((iu8 p.2.2.1).toNat : Int) = p.2.2.1 := by rw [iu8_nat]; omega
  have hT : dq (.pair (.pair .i64 (.pair .u64 (.pair .u64 .unit))) (.pair (.pair .i64 (.pair .u64 (.pair .u64 .unit))) (.pair .i64 (.pair .i64 (.pair .i64 .unit))))) p p = true := rdq _ _ rfl
  have hT' : dq T29 p p = true := hT
  unfold law22_LookupReturns_4
  rw [ret_build N hN h (by omega) hx]
  by_cases h6 : p.1.1 = 6
  · have h62 : p.2.1.1 = 6 := by have := h.fam; omega
    have n4 : ¬ p.1.1 = 4 := by omega
    rw [dpos h6, cond_true, lb6 N hN p (by omega), Option.bind_some]
    have hL : (nbr (be (iu64 ((X ++ (Y ++ S)).length : Int)) 2)).toNat = (X ++ (Y ++ S)).length := by
      have e := iu64_n (n := (X ++ (Y ++ S)).length) (by omega)
      rw [nbr_be' (by omega) _ (by rw [e]; omega), e]
    have n8 : ∀ v : UInt64, nbr (be v 8) = v := fun v => nbr_be' (by omega) v v.toNat_lt
    have hports6 := ret_ports N hN h (P := [96, 0, 0, 0] ++ (be (iu64 ((X ++ (Y ++ S)).length : Int)) 2 ++ ([iu8 p.2.2.1, 64] ++ (be p.1.2.1 8 ++ (be p.1.2.2.1 8 ++ (be p.2.1.2.1 8 ++ be p.2.1.2.2.1 8)))))) (X := X) (Y := Y) (S := S) (hd := 40) (by simp only [List.length_append, be_len, List.length_cons, List.length_nil]) hX hY (by simp only [List.length_append, be_len, List.length_cons, List.length_nil]; simp only [List.length_append] at hlen; omega) hports
    simp only [List.append_assoc] at hports6
    have ea : ((6, nbr (be p.1.2.1 8), nbr (be p.1.2.2.1 8), ()) : Ad) = p.1 := by rw [n8, n8, ← h6]
    have eb : ((6, nbr (be p.2.1.2.1 8), nbr (be p.2.1.2.2.1 8), ()) : Ad) = p.2.1 := by rw [n8, n8, ← h62]
    have hs := see6 N hN (L := be (iu64 ((X ++ (Y ++ S)).length : Int)) 2) (A := be p.1.2.1 8) (B := be p.1.2.2.1 8) (C := be p.2.1.2.1 8) (D := be p.2.1.2.2.1 8) (x := X ++ (Y ++ S)) (q := iu8 p.2.2.1) (be_len _ _) (be_len _ _) (be_len _ _) (be_len _ _) (be_len _ _) (by omega) hL (fun e => q44 (by rw [← hq, e]; rfl)) (k := p) (by
      rw [ea, eb, hq]
      exact hports6)
    rw [hs, Option.bind_some]
    simp only [decide_true, cond_true, hT', Bool.not_false, dneg n4, Bool.not_true]
    have hlr : (([96, 0, 0, 0] ++ (be (iu64 ((X ++ (Y ++ S)).length : Int)) 2 ++ ([iu8 p.2.2.1, 64] ++ (be p.1.2.1 8 ++ (be p.1.2.2.1 8 ++ (be p.2.1.2.1 8 ++ (be p.2.1.2.2.1 8 ++ (X ++ (Y ++ S)))))))) : List UInt8).length : Int) = w64 (40 + (d.length : Int)) := by
      rw [w64_of (by omega) (by omega), ← hlen]
      simp only [List.length_append, be_len, List.length_cons, List.length_nil]
      omega
    rw [dpos hlr]
    rfl
  · have h41 : p.1.1 = 4 ∧ p.1.2.1 = 0 ∧ p.1.2.2.1 < 4294967296 := by
      have := h.v1
      unfold lval at this
      rw [dneg h6, Bool.false_or, Bool.and_eq_true, Bool.and_eq_true, decide_eq_true_eq, decide_eq_true_eq, decide_eq_true_eq] at this
      exact this
    have h62 : ¬ p.2.1.1 = 6 := by have := h.fam; omega
    have h42 : p.2.1.1 = 4 ∧ p.2.1.2.1 = 0 ∧ p.2.1.2.2.1 < 4294967296 := by
      have := h.v2
      unfold lval at this
      rw [dneg h62, Bool.false_or, Bool.and_eq_true, Bool.and_eq_true, decide_eq_true_eq, decide_eq_true_eq, decide_eq_true_eq] at this
      exact this
    obtain ⟨l1, l0, a3, a2, a1, a0, b3, b2, b1, b0, v, eL, eA, eB, hc, hbuild⟩ := lb4 N hN p (x := X ++ (Y ++ S)) (by omega)
    rw [dneg h6, cond_false, hbuild, Option.bind_some]
    have hL : (nbr [l1, l0]).toNat = 20 + (X ++ (Y ++ S)).length := by
      have e := iu64_n (n := 20 + (X ++ (Y ++ S)).length) (by omega)
      have e' : (iu64 (20 + ((X ++ (Y ++ S)).length : Int))).toNat = 20 + (X ++ (Y ++ S)).length := e
      rw [← eL, nbr_be' (by omega) _ (by rw [e']; omega), e']
    have n4 : ∀ v : UInt64, v < 4294967296 → nbr (be v 4) = v := fun v hv => nbr_be' (by omega) v (UInt64.lt_iff_toNat_lt.1 hv)
    have ea : ((4, 0, nbr [a3, a2, a1, a0], ()) : Ad) = p.1 := by rw [← eA, n4 _ h41.2.2, ← h41.1, ← h41.2.1]
    have eb : ((4, 0, nbr [b3, b2, b1, b0], ()) : Ad) = p.2.1 := by rw [← eB, n4 _ h42.2.2, ← h42.1, ← h42.2.1]
    have hports4 := ret_ports N hN h (P := hd4 l1 l0 (iu8 p.2.2.1) (iu8 (shrI v 8)) (iu8 v) a3 a2 a1 a0 b3 b2 b1 b0) (X := X) (Y := Y) (S := S) (hd := 20) rfl hX hY (by rw [List.length_append, hlen]; show 20 + d.length ≤ 1000000; omega) hports
    have hs := see4 N hN (l1 := l1) (l0 := l0) (q := iu8 p.2.2.1) (x := X ++ (Y ++ S)) (by omega) hL (k := p) hc (by
      rw [ea, eb, hq]
      exact hports4)
    rw [hs, Option.bind_some]
    have hlr : ((hd4 l1 l0 (iu8 p.2.2.1) (iu8 (shrI v 8)) (iu8 v) a3 a2 a1 a0 b3 b2 b1 b0 ++ (X ++ (Y ++ S))).length : Int) = 20 + (d.length : Int) := by
      rw [List.length_append, hlen]
      show ((20 + d.length : Nat) : Int) = _
      omega
    have hcut : cut (hd4 l1 l0 (iu8 p.2.2.1) (iu8 (shrI v 8)) (iu8 v) a3 a2 a1 a0 b3 b2 b1 b0 ++ (X ++ (Y ++ S))) 0 20 = hd4 l1 l0 (iu8 p.2.2.1) (iu8 (shrI v 8)) (iu8 v) a3 a2 a1 a0 b3 b2 b1 b0 := rfl
    simp only [decide_true, cond_true, hT', Bool.not_false, dpos h41.1, Bool.not_true, cond_false, hlr, dpos (show 20 + (d.length : Int) = w64 (20 + (d.length : Int)) from (w64_of (by omega) (by omega)).symm), dpos (show (0 : Int) ≤ 0 by omega), dpos (show (0 : Int) ≤ 20 by omega), dpos (show (20 : Int) ≤ 20 + (d.length : Int) by omega), Bool.and_self, hcut, hc, Option.bind_some]
end
end Go.Proofs.Ytgbkkfpheahdfaa.Pl
