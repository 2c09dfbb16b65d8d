/- Plain: the law DecorrelateCounts. -/
import Derived.Test.YtgbkkfpheahdfaaDeQRange
import Derived.Test.YtgbkkfpheahdfaaDeQMakeBox
import Derived.Test.YtgbkkfpheahdfaaFnsDecorrelateCountsA
set_option linter.unusedVariables false
set_option linter.unusedSimpArgs false
namespace Go.Proofs.Ytgbkkfpheahdfaa.Pl
open Go
theorem awake20 : law20_awake 18446744073709551616 = some ((true, ()), ()) := by kernel_rfl
theorem iu_w (x : Int) : iu64 (w64 x) = iu64 x := by
  unfold iu64; congr 1
  apply BitVec.eq_of_toNat_eq
  rw [BitVec.toNat_ofInt, BitVec.toNat_ofInt]
  unfold w64 IntKind.wrap
  simp only [IntKind.signed, IntKind.bits]
  have e : ((2 ^ 64 : Nat) : Int) = 18446744073709551616 := rfl
  have e2 : (2 : Int) ^ 64 = 18446744073709551616 := rfl
  have e3 : (2 : Int) ^ (64 - 1) = 9223372036854775808 := rfl
  rw [e]
  congr 1
  simp only [e2, e3]
  omega
theorem iu_add (x y : Int) : iu64 (x + y) = iu64 x + iu64 y := by unfold iu64; rw [BitVec.ofInt_add]; rfl
theorem iu_sub (x y : Int) : iu64 (x - y) = iu64 x - iu64 y := by
  have h := iu_add (x - y) y
  rw [Int.sub_add_cancel] at h
  rw [h]; grind
theorem iu_nat (v : UInt64) : iu64 (v.toNat : Int) = v := by
  unfold iu64
  apply UInt64.toNat_inj.1
  show (BitVec.ofInt 64 (v.toNat : Int)).toNat = _
  rw [BitVec.toNat_ofInt]
  have := v.toNat_lt
  omega
theorem iu_1 : iu64 1 = 1 := rfl
/-- How many numbers a range has, modulo 2^64. -/
def ln (s : Sd) : UInt64 := s.2.1.2.2.1 - s.1.2.2.1 + 1
def vP (p : Pr) : UInt64 := ln (p.getD 0 s0) * ln (p.getD 1 s0) * ln (p.getD 2 s0) * ln (p.getD 3 s0) * ln (p.getD 4 s0)
def vB (b : Bx) : UInt64 := ((((((b.2.1.2.2.1 - b.1.2.2.1) + (1 : UInt64)) * ((b.2.2.2.1.2.2.1 - b.2.2.1.2.2.1) + (1 : UInt64))) * (iu64 (w64 ((w64 (b.2.2.2.2.2.1 - b.2.2.2.2.1)) + (1 : Int))))) * (iu64 (w64 ((w64 ((b.2.2.2.2.2.2.1.getD 1 (0 : Int)) - (b.2.2.2.2.2.2.1.getD 0 (0 : Int)))) + (1 : Int))))) * (iu64 (w64 ((w64 ((b.2.2.2.2.2.2.2.1.getD 1 (0 : Int)) - (b.2.2.2.2.2.2.2.1.getD 0 (0 : Int)))) + (1 : Int)))))
theorem volume_ok (N : Nat) (b : Bx) : law20_volume N b = some ((vB b, ()), ()) := rfl
theorem vB_bx (p : Pr) : vB (bxOf p) = vP p := by
  unfold vB bxOf vP ln ad nm
  simp only [List.getD_cons_zero, List.getD_cons_succ, iu_w, iu_add, iu_sub, iu_nat, iu_1]
  grind
theorem vB_of (b : Bx) : vB b = vP (ofB b) := by
  unfold vB ofB vP ln ad nv
  simp only [List.getD_cons_zero, List.getD_cons_succ, iu_w, iu_add, iu_sub, iu_nat, iu_1]
  grind
def sv : List Bx → UInt64
  | [] => 0
  | x :: l => vB x + sv l
theorem sv_app : ∀ l r : List Bx, sv (l ++ r) = sv l + sv r
  | [], r => by simp [sv]
  | x :: l, r => by simp only [List.cons_append, sv, sv_app l r]; grind
/-- The lower and the upper piece have the numbers that the meet lacks. -/
theorem ln_low {s m : Sd} (h : vk s.1 < vk m.1) : ln (s.1, ahead m.1, ()) = m.1.2.2.1 - s.1.2.2.1 := by
  unfold ln ahead; grind
theorem ln_high {s m : Sd} (h : vk m.2.1 < vk s.2.1) : ln (behind m.2.1, s.2.1, ()) = s.2.1.2.2.1 - m.2.1.2.2.1 := by
  unfold ln behind; grind
/-- The meet of a range lies in it. -/
def In (s m : Sd) : Prop := vk s.1 ≤ vk m.1 ∧ vk m.2.1 ≤ vk s.2.1
theorem sm_in (s t : Sd) : In s (sm s t) := by
  unfold In sm
  constructor
  · simp only; split <;> omega
  · simp only; split <;> omega
theorem pcs_sum {c m : Pr} {k : Nat} (hk : k < 5) (hc : c.length = 5) (hm : m.length = 5) (hin : In (c.getD k s0) (m.getD k s0)) :
    sv (pcs c m k) = vP c - vP (c.set k (m.getD k s0)) := by
  obtain ⟨h1, h2⟩ := hin
  have low : (if vk (c.getD k s0).1 < vk (m.getD k s0).1 then ln ((c.getD k s0).1, ahead (m.getD k s0).1, ()) else 0) = (m.getD k s0).1.2.2.1 - (c.getD k s0).1.2.2.1 := by
    split
    · rename_i h; exact ln_low h
    · rename_i h; rw [vk_inj (show vk (m.getD k s0).1 = vk (c.getD k s0).1 by omega)]; grind
  have high : (if vk (m.getD k s0).2.1 < vk (c.getD k s0).2.1 then ln (behind (m.getD k s0).2.1, (c.getD k s0).2.1, ()) else 0) = (c.getD k s0).2.1.2.2.1 - (m.getD k s0).2.1.2.2.1 := by
    split
    · rename_i h; exact ln_high h
    · rename_i h; rw [vk_inj (show vk (m.getD k s0).2.1 = vk (c.getD k s0).2.1 by omega)]; grind
  have e : sv (pcs c m k) = (if vk (c.getD k s0).1 < vk (m.getD k s0).1 then vP (c.set k ((c.getD k s0).1, ahead (m.getD k s0).1, ())) else 0) + (if vk (m.getD k s0).2.1 < vk (c.getD k s0).2.1 then vP (c.set k (behind (m.getD k s0).2.1, (c.getD k s0).2.1, ())) else 0) := by
    unfold pcs
    rw [sv_app]
    congr 1
    · split <;> simp [sv, vB_bx]
    · split <;> simp [sv, vB_bx]
  rw [e]
  have hsum : (m.getD k s0).1.2.2.1 - (c.getD k s0).1.2.2.1 + ((c.getD k s0).2.1.2.2.1 - (m.getD k s0).2.1.2.2.1) = ln (c.getD k s0) - ln (m.getD k s0) := by unfold ln; grind
  rw [← low, ← high] at hsum
  generalize ((c.getD k s0).1, ahead (m.getD k s0).1, ()) = x at *
  generalize (behind (m.getD k s0).2.1, (c.getD k s0).2.1, ()) = y at *
  clear low high e h1 h2 hm
  match c, hc with
  | [c0, c1, c2, c3, c4], _ =>
    generalize m.getD k s0 = z at *
    have : k = 0 ∨ k = 1 ∨ k = 2 ∨ k = 3 ∨ k = 4 := by omega
    rcases this with rfl | rfl | rfl | rfl | rfl <;> simp only [vP, List.set_cons_zero, List.set_cons_succ, List.getD_cons_zero, List.getD_cons_succ] at hsum ⊢ <;> split at hsum <;> split at hsum <;> simp_all <;> grind
theorem outK_sum {c m : Pr} (hc : c.length = 5) (hm : m.length = 5) (hin : ∀ k, k < 5 → In (c.getD k s0) (m.getD k s0)) : ∀ k, k ≤ 5 → sv (outK c m k) + vP (cK c m k) = vP c
  | 0, _ => by simp [outK, sv, cK]
  | k + 1, h => by
    have ih := outK_sum hc hm hin k (by omega)
    have hp := pcs_sum (c := cK c m k) (m := m) (k := k) (by omega) (cK_len hc hm (by omega)) hm (by rw [cK_get hm (by omega)]; exact hin k (by omega))
    rw [cK_set hc hm (by omega)] at hp
    simp only [outK, sv_app, hp]
    grind
theorem minus_sum (a b : Bx) : sv (mns a b) + (if okL (ofB a) (ofB b) = true then vB (bxOf (mL (ofB a) (ofB b))) else 0) = vB a := by
  unfold mns
  split
  · have h := outK_sum (c := ofB a) (m := mL (ofB a) (ofB b)) rfl rfl (fun k hk => by
      have : k = 0 ∨ k = 1 ∨ k = 2 ∨ k = 3 ∨ k = 4 := by omega
      rcases this with rfl | rfl | rfl | rfl | rfl <;> exact sm_in _ _) 5 (by omega)
    rw [vB_bx, vB_of]
    exact h
  · simp [sv]
theorem sum_loop (N : Nat) (a b : Bx) (l : List Bx) (hl : l.length ≤ 1000) (hN : 4611686018427387904 ≤ N) : law20_DecorrelateCounts_1 N 0 (l.length : Int) 0 a b l = law20_DecorrelateCounts_3 N (sv l) a b := by
  unfold law20_DecorrelateCounts_1
  refine (loopK_run (fun k : Nat => ((sv (l.take k), (l.length : Int), (k : Int), ()), (a, b, l, ()))) (n := l.length) ?_ (e := ((sv l, ()), (a, b, ()))) ?_ (by omega)).trans ?_
  · intro i hi
    show law20_DecorrelateCounts_s2 N _ _ _ _ _ _ = _
    unfold law20_DecorrelateCounts_s2
    have e : ((i : Nat) : Int).toNat = i := by omega
    have e2 : sv (l.take (i + 1)) = sv (l.take i) + vB (l.getD i b0) := by rw [take_snoc l b0 hi, sv_app]; simp [sv]
    simp (disch := omega) only [dpos, dneg, w64_of, inR_of, room_of, tmod_of, cond_true, cond_false, Bool.and_self, Bool.and_true, Bool.true_and, Bool.and_false, Bool.false_and, Bool.not_true, Bool.not_false, Option.bind_some, List.length_cons, List.length_nil, Nat.zero_add, e, volume_ok, e2, Int.natCast_add, Int.natCast_one]
    rfl
  · show law20_DecorrelateCounts_s2 N _ _ _ _ _ _ = _
    unfold law20_DecorrelateCounts_s2
    simp (disch := omega) only [dpos, dneg, w64_of, inR_of, room_of, tmod_of, cond_true, cond_false, Bool.and_self, Bool.and_true, Bool.true_and, Bool.and_false, Bool.false_and, Bool.not_true, Bool.not_false, Option.bind_some, List.length_cons, List.length_nil, Nat.zero_add, List.take_length]
  · rfl
theorem mns_len (a b : Bx) : (mns a b).length ≤ 10 := by
  unfold mns
  split
  · exact outK_len _ _ 5
  · simp
theorem counts (codes : List UInt8) (hc : codes.length ≤ 9223372036854775807) : law20_DecorrelateCounts 18446744073709551616 codes = some ((true, ()), ()) := by
  unfold law20_DecorrelateCounts
  rw [awake20]
  generalize hN0 : 18446744073709551616 = N
  have hN : 4611686018427387904 ≤ N := by omega
  clear hN0
  simp only [dpos, dneg, w64_of, inR_of, room_of, tmod_of, cond_true, cond_false, Bool.and_self, Bool.and_true, Bool.true_and, Bool.and_false, Bool.false_and, Bool.not_true, Bool.not_false, Option.bind_some, List.length_cons, List.length_nil, Nat.zero_add]
  obtain ⟨c0, e0, k0⟩ := new_ok N codes (m := 120) (by omega) (by omega)
  obtain ⟨a, c1, e1, k1, ha⟩ := box_ok N k0 hN
  obtain ⟨b, c2, e2, k2, hb⟩ := box_ok N k1 hN
  rw [e0, Option.bind_some, e1, Option.bind_some, e2, Option.bind_some, minus_ok N a b hN, Option.bind_some]
  have hl := mns_len a b
  refine (sum_loop N a b (mns a b) (by omega) hN).trans ?_
  unfold law20_DecorrelateCounts_3 law20_DecorrelateCounts_4
  rw [meet_ok N a b hN]
  have hs := minus_sum a b
  simp only [Option.bind_some, volume_ok]
  cases ho : okL (ofB a) (ofB b)
  · rw [ho] at hs
    simp only [cond_false, Bool.false_eq_true, if_false] at hs ⊢
    rw [dpos (by rw [← hs]; simp)]
  · rw [ho] at hs
    simp only [cond_true, if_true] at hs ⊢
    rw [dpos hs]
end Go.Proofs.Ytgbkkfpheahdfaa.Pl
