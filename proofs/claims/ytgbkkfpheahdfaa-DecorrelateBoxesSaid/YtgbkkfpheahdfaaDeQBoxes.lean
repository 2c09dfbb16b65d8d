/- Plain: the law DecorrelateBoxes. -/
import Derived.Test.YtgbkkfpheahdfaaDeQCorners
import Derived.Test.YtgbkkfpheahdfaaFnsDecorrelateBoxesB
set_option linter.unusedVariables false
set_option linter.unusedSimpArgs false
namespace Go.Proofs.Ytgbkkfpheahdfaa.Pl
open Go
theorem awake20 : law20_awake 18446744073709551616 = some ((true, ()), ()) := by kernel_rfl
theorem mns_len (a b : Bx) : (mns a b).length ≤ 10 := by
  unfold mns
  split
  · exact outK_len _ _ 5
  · simp
theorem boxes_3 (N : Nat) (hN : 4611686018427387904 ≤ N) (o : Bool) {c : List UInt8 × (Int × Unit)} (hc : COk c) {a b : Bx} (ha : BOk a) (hb : BOk b) : law20_DecorrelateBoxes_3 N o c a b = some ((true, ()), ()) := by
  unfold law20_DecorrelateBoxes_3 law20_DecorrelateBoxes_4
  have := loopK_of (N := N) (step := fun y => law20_DecorrelateBoxes_s5 N y.1.1 y.1.2.1 y.2.1 y.2.2.1 y.2.2.2.1) (J := fun (e : ((Bool × Unit) × (Bx × Bx × Unit))) => law20_DecorrelateBoxes_6 N e.1.1 e.2.1 e.2.2.1)
    (I := fun s => ∃ (i : Nat) (d : List UInt8 × (Int × Unit)), s = ((o, (i : Int), ()), (d, a, b, ())) ∧ i ≤ 6 ∧ COk d) (μ := fun s => (6 - s.1.2.1).toNat) (T := fun r => r = ((true, ()), ())) ?_ (x := ((o, 0, ()), (c, a, b, ()))) ⟨0, c, rfl, by omega, hc⟩ (by simp only; omega)
  · obtain ⟨r, h1, rfl⟩ := this; exact h1
  · rintro _ ⟨i, d, rfl, hi, hd⟩
    show ∃ r, law20_DecorrelateBoxes_s5 N o (i : Int) d a b = some r ∧ _
    unfold law20_DecorrelateBoxes_s5
    by_cases hlt : i < 6
    · obtain ⟨p, d', e, hd', hp⟩ := packet_ok N hd
      rw [dpos (by omega), cond_true, e]
      simp only [Option.bind_some]
      rw [has_ok N hN a hp, rhas_ok N ha]
      simp only [dpos, dneg, w64_of, inR_of, room_of, tmod_of, cond_true, cond_false, Bool.and_self, Bool.and_true, Bool.true_and, Bool.and_false, Bool.false_and, Bool.not_true, Bool.not_false, Option.bind_some, List.length_cons, List.length_nil, Nat.zero_add, decide_true]
      refine ⟨_, rfl, ⟨i + 1, d', ?_, by omega, hd'⟩, ?_⟩
      · rw [w64_of (by omega) (by omega)]; rfl
      · simp only; rw [w64_of (by omega) (by omega)]; omega
    · rw [dneg (by omega), cond_false]
      refine ⟨_, rfl, _, ?_, rfl⟩
      show law20_DecorrelateBoxes_6 N o a b = _
      unfold law20_DecorrelateBoxes_6
      obtain ⟨l, e, hl, hl2⟩ := corners_ok N hN (M := 200) (by omega) [(0, [], [a], ())] (by simp) (by
        intro r hr
        obtain rfl := List.mem_singleton.1 hr
        exact ⟨by simp, fun x hx => by obtain rfl := List.mem_singleton.1 hx; exact ha⟩)
      have e' : ref20_Corners N [(0, [], [a], ())] 200 = _ := e
      rw [e', Option.bind_some]
      unfold law20_DecorrelateBoxes_7
      refine (loopK_run (fun i : Nat => ((o, (l.length : Int), (i : Int), ()), (b, l, ()))) (n := l.length) ?_ (e := ((), ())) ?_ (by omega)).trans rfl
      · intro i hi
        show law20_DecorrelateBoxes_s8 N o _ _ b l = _
        unfold law20_DecorrelateBoxes_s8
        have hp := hl _ (getD_mem hi ((0, 0, 0, ()), (0, 0, 0, ()), 0, 0, 0, ()))
        rw [dpos (show ((i : Nat) : Int) < (l.length : Int) by omega), inRN hi]
        simp only [cond_true, Int.toNat_natCast, has_ok N hN b hp, rhas_ok N hb, Option.bind_some, decide_true, Bool.not_true, cond_false]
        rw [w64_of (by omega) (by omega)]; rfl
      · show law20_DecorrelateBoxes_s8 N o (l.length : Int) (l.length : Int) b l = _
        unfold law20_DecorrelateBoxes_s8
        rw [dneg (by omega)]; rfl
theorem pair_step (N : Nat) (hN : 4611686018427387904 ≤ N) (o : Bool) (c : List UInt8 × (Int × Unit)) (a b : Bx) (L : List (List Bx)) (hL : L.length = 4) {i : Nat} (hi : i < 4) {x y : Bx} (hx : L.getD i (List.replicate 2 ((0, 0, 0, ()), (0, 0, 0, ()), (0, 0, 0, ()), (0, 0, 0, ()), 0, 0, List.replicate 2 0, List.replicate 2 0, ())) = [x, y]) (hy : BOk y) (hxx : BOk x ∨ x = b0) :
    law20_DecorrelateBoxes_s2 N o 4 (i : Int) c a b L = some (.go ((o, 4, ((i + 1 : Nat) : Int), ()), (c, a, b, L, ()))) := by
  unfold law20_DecorrelateBoxes_s2
  have hw : w64 ((i : Int) + 1) = ((i + 1 : Nat) : Int) := by rw [w64_of (by omega) (by omega)]; rfl
  rw [dpos (show ((i : Nat) : Int) < 4 by omega), inRN (show i < L.length by omega)]
  simp only [cond_true, Int.toNat_natCast, hx, List.getD_cons_zero, List.getD_cons_succ, hw]
  rcases hxx with hxx | rfl
  · obtain ⟨v, ev⟩ := inside_some N hN x y
    have hl := mns_len x y
    have hdq := dq_refl (.pair (.pair .i64 (.pair .u64 (.pair .u64 .unit))) (.pair (.pair .i64 (.pair .u64 (.pair .u64 .unit))) (.pair (.pair .i64 (.pair .u64 (.pair .u64 .unit))) (.pair (.pair .i64 (.pair .u64 (.pair .u64 .unit))) (.pair .i64 (.pair .i64 (.pair (.arr 2 .i64) (.pair (.arr 2 .i64) .unit)))))))) (meetB x y).1 rfl
    have em : decorrelate_Meet N x y = some (((meetB x y).1, (meetB x y).2, ()), ()) := meet_ok N x y hN
    rw [checkbox_ok N hN hxx]
    simp only [Option.bind_some, decide_true, Bool.not_true, cond_false]
    rw [em, rmeet_ok N hN hxx hy]
    simp only [Option.bind_some, hdq, decide_true, Bool.not_true, cond_false]
    rw [minus_ok N x y hN, rminus_ok N hN hxx hy]
    simp only [Option.bind_some]
    rw [same_boxes N hN _ (by omega), rinside_ok N hN hxx hy, ev]
    simp only [Option.bind_some, decide_true, Bool.not_true, cond_false]
  · rw [checkbox_0 N hN]
    rfl
theorem boxes (codes : List UInt8) (hc : codes.length ≤ 9223372036854775807) (o : Bool) : law20_DecorrelateBoxes 18446744073709551616 codes o = some ((true, ()), ()) := by
  unfold law20_DecorrelateBoxes
  rw [awake20]
  generalize hN0 : 18446744073709551616 = N
  have hN : 4611686018427387904 ≤ N := by omega
  clear hN0
  simp only [dpos, dneg, w64_of, inR_of, room_of, tmod_of, cond_true, cond_false, Bool.and_self, Bool.and_true, Bool.true_and, Bool.and_false, Bool.false_and, Bool.not_true, Bool.not_false, Option.bind_some, List.length_cons, List.length_nil, Nat.zero_add]
  obtain ⟨c0, e0, k0⟩ := new_ok N codes (m := 240) (by omega) (by omega)
  obtain ⟨a, c1, e1, k1, ha⟩ := box_ok N k0 hN
  obtain ⟨b, c2, e2, k2, hb⟩ := box_ok N k1 hN
  rw [e0, Option.bind_some, e1, Option.bind_some, e2, Option.bind_some, rmeet_ok N hN ha hb, Option.bind_some]
  have hm : BOk (meetB a b).1 ∨ (meetB a b).1 = b0 := by
    unfold meetB
    cases h : okL (ofB a) (ofB b)
    · right; rfl
    · left
      obtain ⟨f, hf, na, _⟩ := bok_np ha
      exact np_bok hf (mL_np na h)
  generalize (meetB a b).1 = m at *
  show law20_DecorrelateBoxes_1 N o 4 0 c2 a b [[a, b], [b, a], [a, a], [m, b]] = _
  unfold law20_DecorrelateBoxes_1
  refine (loopK_run (fun i : Nat => ((o, 4, (i : Int), ()), (c2, a, b, [[a, b], [b, a], [a, a], [m, b]], ()))) (n := 4) ?_ (e := ((o, ()), (c2, a, b, ()))) ?_ (by omega)).trans (boxes_3 N hN o k2 ha hb)
  · intro i hi
    have : i = 0 ∨ i = 1 ∨ i = 2 ∨ i = 3 := by omega
    rcases this with rfl | rfl | rfl | rfl
    · exact pair_step N hN o c2 a b _ rfl (by omega) rfl hb (.inl ha)
    · exact pair_step N hN o c2 a b _ rfl (by omega) rfl ha (.inl hb)
    · exact pair_step N hN o c2 a b _ rfl (by omega) rfl ha (.inl ha)
    · exact pair_step N hN o c2 a b _ rfl (by omega) rfl hb hm
  · rfl
end Go.Proofs.Ytgbkkfpheahdfaa.Pl
