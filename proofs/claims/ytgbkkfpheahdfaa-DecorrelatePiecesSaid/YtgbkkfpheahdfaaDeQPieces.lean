/- Plain: the law DecorrelatePieces. -/
import Derived.Test.YtgbkkfpheahdfaaDeQCorners
import Derived.Test.YtgbkkfpheahdfaaFnsDecorrelatePiecesB
set_option linter.unusedVariables false
set_option linter.unusedSimpArgs false
namespace Go.Proofs.Ytgbkkfpheahdfaa.Pl
open Go
theorem awake20p : law20_awake 18446744073709551616 = some ((true, ()), ()) := by kernel_rfl
theorem apart_ok (N : Nat) (hN : 4611686018427387904 ≤ N) {a b : Bx} (ha : BOk a) (hb : BOk b) : law20_apart N a b = some ((!(okL (ofB a) (ofB b)), ()), ()) := by
  unfold law20_apart
  rw [rmeet_ok N hN ha hb]
  rfl
theorem getD_map {α β : Type} (g : α → β) (l : List α) {i : Nat} (h : i < l.length) (d : β) : ∃ x, l[i]? = some x ∧ (l.map g).getD i d = g x := by
  refine ⟨l[i], List.getElem?_eq_getElem h, ?_⟩
  rw [List.getD_eq_getElem?_getD, List.getElem?_map, List.getElem?_eq_getElem h]; rfl
section
variable (N : Nat) (hN : 4611686018427387904 ≤ N) {f : Int} (hf : f = 4 ∨ f = 6) {a b : Bx} (na : NP f (ofB a)) (hb : BOk b) (hab : BOk a)
include hN hf na hb hab
theorem pieces_step (pk : List UInt8) (ok : Bool) (m : Bx) {i : Nat} (hi : i < (mns a b).length) : law20_DecorrelatePieces_s2 N pk ok ((mns a b).length : Int) (i : Int) a b (mns a b) m = some (.go ((pk, ok, ((mns a b).length : Int), ((i + 1 : Nat) : Int), ()), (a, b, mns a b, m, ()))) := by
  have hlen : (mns a b).length ≤ 10 := by rw [mns_map a b (bx_id hab), List.length_map]; exact mnP_len _ _
  have hmap := mns_map a b (bx_id hab)
  have hcnt : ∀ x, cnt (mnP (ofB a) (ofB b)) x ≤ 1 := by
    intro x
    have := mnP_cnt (ofB b) na x
    have h1 : (hasP (ofB a) x).toNat ≤ 1 := Bool.toNat_le _
    omega
  have hl2 : (mns a b).length = (mnP (ofB a) (ofB b)).length := by rw [hmap, List.length_map]
  have key : ∀ k, k < (mns a b).length → ∃ q, (mnP (ofB a) (ofB b))[k]? = some q ∧ NP f q ∧ (mns a b).getD k ((0, 0, 0, ()), (0, 0, 0, ()), (0, 0, 0, ()), (0, 0, 0, ()), 0, 0, List.replicate 2 0, List.replicate 2 0, ()) = bxOf q := by
    intro k hk
    rw [hmap]
    obtain ⟨q, h1, h2⟩ := getD_map bxOf (mnP (ofB a) (ofB b)) (show k < _ by omega) ((0, 0, 0, ()), (0, 0, 0, ()), (0, 0, 0, ()), (0, 0, 0, ()), 0, 0, List.replicate 2 0, List.replicate 2 0, ())
    exact ⟨q, h1, mnP_np _ na q (List.mem_of_getElem? h1), h2⟩
  obtain ⟨p, hp, np, ep⟩ := key i hi
  have hpm := List.mem_of_getElem? hp
  have hbp := np_bok hf np
  have hin := mnP_inside (ofB b) na hpm
  have hap := mnP_apart (ofB b) na hpm
  unfold law20_DecorrelatePieces_s2 law20_DecorrelatePieces_3 law20_DecorrelatePieces_5
  rw [dpos (by omega), inRN hi]
  simp only [cond_true, Int.toNat_natCast, ep, checkbox_ok N hN hbp, Option.bind_some, decide_true, Bool.not_true, cond_false]
  have hins : decorrelate_Inside N (bxOf p) a = some ((true, ()), ()) := by
    unfold decorrelate_Inside
    rw [meet_ok N _ _ hN, of_bx np, hin.1, hin.2]
    simp only [if_true, Option.bind_some, cond_true]
    rw [dq_refl _ _ rfl]
  rw [hins]
  simp only [Option.bind_some, Bool.not_true, cond_false]
  rw [apart_ok N hN hbp hb, of_bx np, hap]
  simp only [Option.bind_some, Bool.not_false, Bool.not_true]
  unfold law20_DecorrelatePieces_6 law20_DecorrelatePieces_7
  simp only [cond_false]
  refine (loopK_run (fun k : Nat => ((pk, ok, (i : Int), (k : Int), ((mns a b).length : Int), (i : Int), ()), (a, b, mns a b, m, ()))) (n := i) ?_ (e := ((pk, ok, ((mns a b).length : Int), (i : Int), ()), (a, b, mns a b, m, ()))) ?_ (by omega)).trans ?_
  · intro k hk
    obtain ⟨q, hq, nq, eq⟩ := key k (by omega)
    show law20_DecorrelatePieces_s8 N pk ok (i : Int) (k : Int) ((mns a b).length : Int) (i : Int) a b (mns a b) m = _
    unfold law20_DecorrelatePieces_s8
    rw [dpos (by omega), inRN hi, inRN (show k < (mns a b).length by omega)]
    simp only [cond_true, Int.toNat_natCast, ep, eq]
    rw [apart_ok N hN hbp (np_bok hf nq), of_bx np, of_bx nq, apart_of hcnt hk hq hp]
    simp only [Option.bind_some, Bool.not_false, Bool.not_true, cond_false]
    rw [w64_of (by omega) (by omega)]; rfl
  · show law20_DecorrelatePieces_s8 N pk ok (i : Int) (i : Int) ((mns a b).length : Int) (i : Int) a b (mns a b) m = _
    unfold law20_DecorrelatePieces_s8
    rw [dneg (by omega)]; rfl
  · show law20_DecorrelatePieces_9 N pk ok ((mns a b).length : Int) (i : Int) a b (mns a b) m = _
    unfold law20_DecorrelatePieces_9
    rw [w64_of (by omega) (by omega)]; rfl
omit hf hb in
theorem pieces_pkt (pk : List UInt8) (all : List Pk) {p : Pk} (hp : POk p) (t u : Int) :
    law20_DecorrelatePieces_16 N pk (meetB a b).2 t u false a (mns a b) (meetB a b).1 all p = law20_DecorrelatePieces_17 N pk (meetB a b).2 t u a (mns a b) (meetB a b).1 all := by
  have hlen : (mns a b).length ≤ 10 := by rw [mns_map a b (bx_id hab), List.length_map]; exact mnP_len _ _
  have hmap := mns_map a b (bx_id hab)
  have hc := mnP_cnt (ofB b) na (pt (turn p true))
  unfold law20_DecorrelatePieces_16
  simp only [cond_false]
  have hm : (if (meetB a b).2 = true then hasB (meetB a b).1 p true else false) = (hasP (ofB a) (pt (turn p true)) && hasP (ofB b) (pt (turn p true))) := by
    unfold meetB
    simp only
    cases ho : okL (ofB a) (ofB b)
    · cases h1 : hasP (ofB a) (pt (turn p true))
      · rfl
      · cases h2 : hasP (ofB b) (pt (turn p true))
        · rfl
        · rw [okL_of h1 h2] at ho; cases ho
    · simp only [if_true]
      unfold hasB
      rw [of_bx (mL_np na ho), mL_has]
  have fin : ∀ v : Bool, v = (hasP (ofB a) (pt (turn p true)) && hasP (ofB b) (pt (turn p true))) → ∀ ok m, law20_DecorrelatePieces_18 N pk ok 0 t u v a (mns a b) m all p = law20_DecorrelatePieces_17 N pk ok t u a (mns a b) m all := by
    intro v hv ok m
    have e18 : law20_DecorrelatePieces_18 N pk ok 0 t u v a (mns a b) m all p = law20_DecorrelatePieces_19 N pk ok ((v.toNat : Nat) : Int) t u a (mns a b) m all p := by
      unfold law20_DecorrelatePieces_18
      cases v <;> rfl
    rw [e18]
    unfold law20_DecorrelatePieces_19 law20_DecorrelatePieces_20
    have h0 : v.toNat ≤ 1 := Bool.toNat_le _
    have hci : ∀ i, i ≤ (mns a b).length → cnt ((mnP (ofB a) (ofB b)).take i) (pt (turn p true)) ≤ 10 := by
      intro i hi
      have : cnt ((mnP (ofB a) (ofB b)).take i) (pt (turn p true)) ≤ ((mnP (ofB a) (ofB b)).take i).length := List.countP_le_length
      rw [List.length_take] at this
      omega
    have := loopK_run (step := fun y => law20_DecorrelatePieces_s21 N y.1.1 y.1.2.1 y.1.2.2.1 y.1.2.2.2.1 y.1.2.2.2.2.1 y.1.2.2.2.2.2.1 y.1.2.2.2.2.2.2.1 y.2.1 y.2.2.1 y.2.2.2.1 y.2.2.2.2.1 y.2.2.2.2.2.1) (J := fun (e : (((List UInt8) × Bool × Int × Int × Int × Unit) × (Bx × (List Bx) × Bx × (List Pk) × Pk × Unit))) => law20_DecorrelatePieces_22 N e.1.1 e.1.2.1 e.1.2.2.1 e.1.2.2.2.1 e.1.2.2.2.2.1 e.2.1 e.2.2.1 e.2.2.2.1 e.2.2.2.2.1 e.2.2.2.2.2.1)
      (fun i : Nat => ((pk, ok, ((v.toNat + cnt ((mnP (ofB a) (ofB b)).take i) (pt (turn p true)) : Nat) : Int), t, u, ((mns a b).length : Int), (i : Int), ()), (a, mns a b, m, all, p, ()))) (n := (mns a b).length) (e := ((pk, ok, ((v.toNat + cnt (mnP (ofB a) (ofB b)) (pt (turn p true)) : Nat) : Int), t, u, ()), (a, mns a b, m, all, p, ()))) ?_ ?_ (show (mns a b).length < N by omega)
    · refine this.trans ?_
      show law20_DecorrelatePieces_22 N pk ok ((v.toNat + cnt (mnP (ofB a) (ofB b)) (pt (turn p true)) : Nat) : Int) t u a (mns a b) m all p = _
      unfold law20_DecorrelatePieces_22
      rw [← hv] at hc
      have h1 : (hasP (ofB a) (pt (turn p true))).toNat ≤ 1 := Bool.toNat_le _
      rw [dneg (by omega), has_ok N hN a hp]
      simp only [Option.bind_some, cond_false]
      have : decide (((v.toNat + cnt (mnP (ofB a) (ofB b)) (pt (turn p true)) : Nat) : Int) = 1) = hasB a p true := by
        unfold hasB
        rw [show v.toNat + cnt (mnP (ofB a) (ofB b)) (pt (turn p true)) = (hasP (ofB a) (pt (turn p true))).toNat by omega]
        cases hasP (ofB a) (pt (turn p true)) <;> rfl
      rw [this]
      simp only [decide_true, Bool.not_true, cond_false]
    · intro i hi
      have hl2 : (mns a b).length = (mnP (ofB a) (ofB b)).length := by rw [hmap, List.length_map]
      show law20_DecorrelatePieces_s21 N pk ok ((v.toNat + cnt ((mnP (ofB a) (ofB b)).take i) (pt (turn p true)) : Nat) : Int) t u ((mns a b).length : Int) (i : Int) a (mns a b) m all p = _
      unfold law20_DecorrelatePieces_s21
      have h2 := hci i (by omega)
      rw [dpos (by omega), inRN hi]
      simp only [cond_true, Int.toNat_natCast, has_ok N hN _ hp, Option.bind_some]
      obtain ⟨q, hq, eq⟩ := getD_map bxOf (mnP (ofB a) (ofB b)) (show i < _ by omega) ((0, 0, 0, ()), (0, 0, 0, ()), (0, 0, 0, ()), (0, 0, 0, ()), 0, 0, List.replicate 2 0, List.replicate 2 0, ())
      rw [← hmap] at eq
      rw [eq]
      have nq := mnP_np (ofB b) na q (List.mem_of_getElem? hq)
      have hbq : hasB (bxOf q) p true = hasP q (pt (turn p true)) := by unfold hasB; rw [of_bx nq]
      rw [hbq]
      have et : (mnP (ofB a) (ofB b)).take (i + 1) = (mnP (ofB a) (ofB b)).take i ++ [q] := by rw [List.take_add_one, hq]; rfl
      rw [et, cnt_app, cnt_one]
      have w1 : w64 ((i : Int) + 1) = ((i + 1 : Nat) : Int) := by rw [w64_of (by omega) (by omega)]; rfl
      cases hasP q (pt (turn p true))
      · simp only [cond_false, w1, Bool.toNat_false, Nat.add_zero]
      · simp only [cond_true, w1, Bool.toNat_true]
        rw [w64_of (by omega) (by omega)]
        rfl
    · show law20_DecorrelatePieces_s21 N pk ok _ t u ((mns a b).length : Int) ((mns a b).length : Int) a (mns a b) m all p = _
      unfold law20_DecorrelatePieces_s21
      rw [dneg (by omega), cond_false]
      have hl2 : (mns a b).length = (mnP (ofB a) (ofB b)).length := by rw [hmap, List.length_map]
      rw [hl2, List.take_length]
  cases hok : (meetB a b).2
  · rw [hok] at hm
    simp only [cond_false]
    exact fin false (by simpa using hm) _ _
  · rw [hok] at hm
    simp only [cond_true, has_ok N hN _ hp, Option.bind_some]
    exact fin _ (by simpa using hm) _ _
end
theorem pieces (codes : List UInt8) (hc : codes.length ≤ 9223372036854775807) (pk : List UInt8) (hpk : pk.length ≤ 9223372036854775807) : law20_DecorrelatePieces 18446744073709551616 codes pk = some ((true, ()), ()) := by
  unfold law20_DecorrelatePieces
  rw [awake20p]
  generalize hN0 : 18446744073709551616 = N
  have hN : 4611686018427387904 ≤ N := by omega
  clear hN0
  simp only [dpos, dneg, w64_of, inR_of, room_of, tmod_of, cond_true, cond_false, Bool.and_self, Bool.and_true, Bool.true_and, Bool.and_false, Bool.false_and, Bool.not_true, Bool.not_false, Option.bind_some, List.length_cons, List.length_nil, Nat.zero_add]
  obtain ⟨c0, e0, k0⟩ := new_ok N codes (m := 120) (by omega) (by omega)
  obtain ⟨a, c1, e1, k1, ha⟩ := box_ok N k0 hN
  obtain ⟨b, c2, e2, k2, hb⟩ := box_ok N k1 hN
  have em : decorrelate_Meet N a b = some (((meetB a b).1, (meetB a b).2, ()), ()) := meet_ok N a b hN
  rw [e0, Option.bind_some, e1, Option.bind_some, e2, Option.bind_some, minus_ok N a b hN, Option.bind_some, em, Option.bind_some]
  obtain ⟨f, hf, na, _⟩ := bok_np ha
  have hlen : (mns a b).length ≤ 10 := by rw [mns_map a b (bx_id ha), List.length_map]; exact mnP_len _ _
  unfold law20_DecorrelatePieces_1
  refine (loopK_run (fun i : Nat => ((pk, (meetB a b).2, ((mns a b).length : Int), (i : Int), ()), (a, b, mns a b, (meetB a b).1, ()))) (n := (mns a b).length) ?_ (e := ((pk, (meetB a b).2, ()), (a, b, mns a b, (meetB a b).1, ()))) ?_ (by omega)).trans ?_
  · intro i hi
    exact pieces_step N hN hf na hb ha pk _ _ hi
  · show law20_DecorrelatePieces_s2 N pk _ ((mns a b).length : Int) ((mns a b).length : Int) a b (mns a b) _ = _
    unfold law20_DecorrelatePieces_s2
    rw [dneg (by omega)]; rfl
  · show law20_DecorrelatePieces_10 N pk _ a b (mns a b) _ = _
    unfold law20_DecorrelatePieces_10
    obtain ⟨d0, g0, j0⟩ := new_ok N pk (m := 120) (by omega) (by omega)
    obtain ⟨l, e, hl, hl2⟩ := corners_ok N hN (M := 2048) (by omega) [(0, [], [a, b], ())] (by simp) (by
      intro r hr
      obtain rfl := List.mem_singleton.1 hr
      refine ⟨by simp, fun x hx => ?_⟩
      simp only [List.mem_cons, List.not_mem_nil, or_false] at hx
      rcases hx with rfl | rfl
      · exact ha
      · exact hb)
    have e' : ref20_Corners N [(0, [], [a, b], ())] 2048 = _ := e
    obtain ⟨p1, d1, g1, j1, h1⟩ := packet_ok N j0
    obtain ⟨p2, d2, g2, j2, h2⟩ := packet_ok N j1
    obtain ⟨p3, d3, g3, j3, h3⟩ := packet_ok N j2
    obtain ⟨p4, d4, g4, j4, h4⟩ := packet_ok N j3
    rw [g0, Option.bind_some, e', Option.bind_some, g1, Option.bind_some, g2, Option.bind_some, g3, Option.bind_some, g4, Option.bind_some]
    have hr : room (l.length + ([p1, p2, p3, p4] : List Pk).length) 72 = true := room_of (by simp only [List.length_cons, List.length_nil]; omega)
    simp only [hr, cond_true]
    have hall : ∀ p ∈ l ++ [p1, p2, p3, p4], POk p := by
      intro p hp
      rcases List.mem_append.1 hp with hp | hp
      · exact hl p hp
      · simp only [List.mem_cons, List.not_mem_nil, or_false] at hp
        rcases hp with rfl | rfl | rfl | rfl <;> assumption
    have hal : (l ++ [p1, p2, p3, p4]).length ≤ 3000 := by rw [List.length_append]; simp only [List.length_cons, List.length_nil]; omega
    generalize l ++ [p1, p2, p3, p4] = A at *
    unfold law20_DecorrelatePieces_11
    refine (loopK_run (fun i : Nat => ((pk, (meetB a b).2, (A.length : Int), (i : Int), ()), (a, mns a b, (meetB a b).1, A, ()))) (n := A.length) ?_ (e := ((), ())) ?_ (by omega)).trans rfl
    · intro i hi
      show law20_DecorrelatePieces_s12 N pk _ (A.length : Int) (i : Int) a (mns a b) _ A = _
      unfold law20_DecorrelatePieces_s12 law20_DecorrelatePieces_13 law20_DecorrelatePieces_15
      rw [dpos (by omega), inRN hi]
      simp only [cond_true, Int.toNat_natCast]
      have hp := hall _ (getD_mem hi ((0, 0, 0, ()), (0, 0, 0, ()), 0, 0, 0, ()))
      generalize A.getD i ((0, 0, 0, ()), (0, 0, 0, ()), 0, 0, 0, ()) = p at *
      have e17 : law20_DecorrelatePieces_17 N pk (meetB a b).2 (A.length : Int) (i : Int) a (mns a b) (meetB a b).1 A = some (.go ((pk, (meetB a b).2, (A.length : Int), ((i + 1 : Nat) : Int), ()), (a, mns a b, (meetB a b).1, A, ()))) := by
        unfold law20_DecorrelatePieces_17
        rw [w64_of (by omega) (by omega)]; rfl
      have e16 : ∀ v, law20_DecorrelatePieces_16 N pk (meetB a b).2 (A.length : Int) (i : Int) v a (mns a b) (meetB a b).1 A p = some (.go ((pk, (meetB a b).2, (A.length : Int), ((i + 1 : Nat) : Int), ()), (a, mns a b, (meetB a b).1, A, ()))) := by
        intro v
        cases v
        · rw [pieces_pkt N hN na ha pk A hp, e17]
        · unfold law20_DecorrelatePieces_16
          exact e17
      simp only [e16]
      cases (!(decide (((i : Int)).tmod 5 = ((pk.length : Int)).tmod 5))) <;> rfl
    · show law20_DecorrelatePieces_s12 N pk _ (A.length : Int) (A.length : Int) a (mns a b) _ A = _
      unfold law20_DecorrelatePieces_s12
      rw [dneg (by omega)]; rfl
end Go.Proofs.Ytgbkkfpheahdfaa.Pl
