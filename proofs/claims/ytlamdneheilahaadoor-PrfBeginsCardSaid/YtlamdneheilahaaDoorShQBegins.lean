/- Plain: the law PrfBegins. -/
import Derived.Test.YtlamdneheilahaaDoorShQSplit
import Derived.Test.YtlamdneheilahaaDoorShQPrfSums
import Derived.Test.YtlamdneheilahaaDoorFnsPrfBeginsA
set_option linter.unusedVariables false
set_option linter.unusedSimpArgs false
namespace Go.Proofs.YtlamdneheilahaaDoor.Pl
open Go
theorem pk64_pad {k : List UInt8} (h : k.length ≤ 64) : pk64 (k ++ List.replicate (64 - k.length) 0) = pk64 k := by
  have e : ∀ k : List UInt8, k.length ≤ 64 → pk64 k = k ++ List.replicate (64 - k.length) 0 := by
    intro k h
    unfold pk64 splice
    rw [List.take_of_length_le (by rw [List.length_replicate]; exact h), List.drop_replicate]
  have hl : (k ++ List.replicate (64 - k.length) (0 : UInt8)).length = 64 := by
    rw [List.length_append, List.length_replicate]; omega
  rw [e _ (by omega), e k h, hl]
  simp
theorem hmac_pad {k : List UInt8} (h : k.length ≤ 64) : hmac (k ++ List.replicate (64 - k.length) 0) = hmac k := by
  funext b
  have hl : (k ++ List.replicate (64 - k.length) (0 : UInt8)).length = 64 := by
    rw [List.length_append, List.length_replicate]; omega
  unfold hmac mk hk
  rw [if_neg (by omega), if_neg (by omega), pk64_pad h]
theorem tt_congr {k k' s : List UInt8} (h : hmac k' = hmac k) (i : Nat) : tt k' s i = tt k s i := by
  induction i with
  | zero => rfl
  | succ i ih => rw [tt, tt, ih, h]
theorem oo_congr {k k' s : List UInt8} (h : hmac k' = hmac k) (i : Nat) : oo k' s i = oo k s i := by
  induction i with
  | zero => rfl
  | succ i ih => rw [oo, oo, ih, tt_congr h]
theorem oo_pre (k s : List UInt8) (c d : Nat) : ∃ r, oo k s (c + d) = oo k s c ++ r := by
  induction d with
  | zero => exact ⟨[], by simp⟩
  | succ d ih => obtain ⟨r, hr⟩ := ih; exact ⟨r ++ tt k s (c + d + 1), by rw [← Nat.add_assoc, oo, hr, List.append_assoc]⟩
theorem plus_take (k s : List UInt8) (n m : Nat) : (plus k s (n + m)).take n = plus k s n := by
  unfold plus
  rw [List.take_take, Nat.min_eq_left (by omega)]
  obtain ⟨d, hd⟩ : ∃ d, (n + m + 31) / 32 = (n + 31) / 32 + d := ⟨(n + m + 31) / 32 - (n + 31) / 32, by omega⟩
  obtain ⟨r, hr⟩ := oo_pre k s ((n + 31) / 32) d
  rw [hd, hr, List.take_append_of_le_length (by rw [oo_len]; omega)]
theorem spl_at {b : List UInt8} {ns : List Int} {l : List (List UInt8)} (h : spl b ns = some l) {i : Nat} (hi : i < ns.length) :
    0 ≤ ns.getD i 0 ∧ 0 ≤ (ns.take i).sum ∧ (ns.take i).sum + ns.getD i 0 ≤ (b.length : Int) ∧ l.getD i [] = (b.drop (ns.take i).sum.toNat).take (ns.getD i 0).toNat := by
  induction ns generalizing b l i with
  | nil => simp at hi
  | cons n ns ih =>
    rw [spl_cons] at h
    split at h
    · cases h
    · rename_i hc
      obtain ⟨m, hm, rfl⟩ := Option.map_eq_some_iff.1 h
      cases i with
      | zero => simp; omega
      | succ i =>
        obtain ⟨q1, q2, q3, q4⟩ := ih hm (i := i) (by simpa using hi)
        simp only [List.getD_cons_succ, List.take_succ_cons, List.sum_cons]
        have hl : ((b.drop n.toNat).length : Int) = (b.length : Int) - n := by simp; omega
        refine ⟨q1, by omega, by omega, ?_⟩
        rw [q4, List.drop_drop, show (n + (ns.take i).sum).toNat = n.toNat + (ns.take i).sum.toNat by omega]
theorem spl_sum {b : List UInt8} {ns : List Int} (h : ∀ x ∈ ns, 0 ≤ x) : (spl b ns).isSome = decide (ns.sum ≤ (b.length : Int)) := by
  induction ns generalizing b with
  | nil => simp [spl]
  | cons n ns ih =>
    have h0 := h n (by simp)
    have hs : 0 ≤ ns.sum := by
      clear ih
      induction ns with
      | nil => simp
      | cons m ns ih2 =>
        have := h m (by simp)
        have := ih2 (fun x hx => h x (by rcases List.mem_cons.1 hx with rfl | hx <;> simp [*]))
        simp only [List.sum_cons]; omega
    rw [spl_cons]
    split
    · have : ¬ (n :: ns).sum ≤ (b.length : Int) := by simp only [List.sum_cons]; omega
      simp only [Option.isSome_none, dneg this]
    · rw [Option.isSome_map, ih (fun x hx => h x (by simp [hx]))]
      have hl : ((b.drop n.toNat).length : Int) = (b.length : Int) - n := by simp; omega
      rw [List.sum_cons]
      apply decide_eq_decide.2
      constructor <;> intro _ <;> omega
theorem sum_snoc (l : List Int) {i : Nat} (h : i < l.length) : (l.take (i + 1)).sum = (l.take i).sum + l.getD i 0 := by
  rw [take_snoc l 0 h]; simp
theorem sum_bd {l : List Int} (h : ∀ x ∈ l, 0 ≤ x ∧ x < 40) : 0 ≤ l.sum ∧ l.sum ≤ 40 * (l.length : Int) := by
  induction l with
  | nil => simp
  | cons x l ih =>
    have := h x (by simp)
    have := ih fun y hy => h y (by simp [hy])
    simp only [List.sum_cons, List.length_cons, Int.natCast_add, Int.natCast_one]; omega
theorem begins_8 (N : Nat) {b : List UInt8} {l : List Int} {x : List (List UInt8)} {ok : Bool} (hl : l.length ≤ 50) (hb : ∀ x ∈ l, 0 ≤ x ∧ x < 40) (hok : ok = decide (l.sum ≤ (b.length : Int))) (hx : ok = true → x.length = l.length) (hN : 4611686018427387904 ≤ N) : law09_PrfBegins_8 N b l ok x = some ((true, ()), ()) := by
  unfold law09_PrfBegins_8 law09_PrfBegins_9
  have hlN : l.length < N := by omega
  refine (loopK_run (fun i : Nat => ((b, l, ok, (l.take i).sum, l, (l.length : Int), (i : Int), ()), (x, ()))) (n := l.length) ?_ (e := ((b, l, ok, l.sum, ()), (x, ()))) ?_ hlN).trans ?_
  · intro i hi
    have q1 := sum_bd (l := l.take i) fun y hy => hb y (List.mem_of_mem_take hy)
    have q2 := hb (l.getD i 0) (by simp [List.getD, hi])
    have q3 : (l.take i).length = i := by simp; omega
    show law09_PrfBegins_s10 N b l ok _ l _ _ x = _
    unfold law09_PrfBegins_s10
    simp (disch := omega) only [dpos, dneg, w64_of, inR_of, room_of, tmod_of, cond_true, cond_false, Bool.and_self, Bool.and_true, Bool.true_and, Bool.and_false, Bool.false_and, Bool.not_true, Bool.not_false, Option.bind_some, List.length_cons, List.length_nil, Nat.zero_add, Int.toNat_natCast, sum_snoc l hi, Int.natCast_add, Int.natCast_one]
  · show law09_PrfBegins_s10 N b l ok _ l _ _ x = _
    unfold law09_PrfBegins_s10
    simp (disch := omega) only [dpos, dneg, w64_of, inR_of, room_of, tmod_of, cond_true, cond_false, Bool.and_self, Bool.and_true, Bool.true_and, Bool.and_false, Bool.false_and, Bool.not_true, Bool.not_false, Option.bind_some, List.length_cons, List.length_nil, Nat.zero_add, List.take_length]
  · show law09_PrfBegins_11 N b l ok l.sum x = _
    unfold law09_PrfBegins_11
    rw [← hok]
    cases ok with
    | false => rfl
    | true => have := hx rfl; simp [this]
theorem begins_5 (N : Nat) {b : List UInt8} {l : List Int} (hbl : b.length ≤ 1000) (hl : l.length ≤ 50) (hb : ∀ x ∈ l, 0 ≤ x ∧ x < 40) (hN : 4611686018427387904 ≤ N) : law09_PrfBegins_5 N b l = some ((true, ()), ()) := by
  unfold law09_PrfBegins_5
  simp (disch := omega) only [dpos, dneg, w64_of, inR_of, room_of, tmod_of, cond_true, cond_false, Bool.and_self, Bool.and_true, Bool.true_and, Bool.and_false, Bool.false_and, Bool.not_true, Bool.not_false, Option.bind_some, List.length_cons, List.length_nil, Nat.zero_add, prf_split]
  have hs := spl_sum (b := b) (ns := l) fun x hx => (hb x hx).1
  unfold law09_PrfBegins_6
  cases h : spl b l with
  | none =>
    rw [h] at hs
    refine (loopK_run (fun i : Nat => ((b, l, false, 0, 0, (i : Int), ()), ([], ()))) (n := 0) (fun i hi => absurd hi (by omega)) (e := ((b, l, false, ()), ([], ()))) ?_ (by omega)).trans ?_
    · show law09_PrfBegins_s7 N b l false 0 0 0 [] = _
      unfold law09_PrfBegins_s7
      simp (disch := omega) only [dpos, dneg, w64_of, inR_of, room_of, tmod_of, cond_true, cond_false, Bool.and_self, Bool.and_true, Bool.true_and, Bool.and_false, Bool.false_and, Bool.not_true, Bool.not_false, Option.bind_some, List.length_cons, List.length_nil, Nat.zero_add]
    · exact begins_8 N hl hb (by simpa using hs) (fun e => by cases e) hN
  | some x =>
    rw [h] at hs
    obtain ⟨x1, x2⟩ := spl_elem h
    have hlN : l.length < N := by omega
    show loopK N _ _ ((b, l, true, 0, (x.length : Int), 0, ()), (x, ())) = _
    refine (loopK_run (fun i : Nat => ((b, l, true, (l.take i).sum, (x.length : Int), (i : Int), ()), (x, ()))) (n := l.length) ?_ (e := ((b, l, true, ()), (x, ()))) ?_ hlN).trans ?_
    · intro i hi
      obtain ⟨q1, q2, q3, q4⟩ := spl_at h hi
      have q5 : ((x.getD i []).length : Int) = l.getD i 0 := by rw [q4, List.length_take, List.length_drop]; omega
      have q6 : cut b (l.take i).sum.toNat ((l.take i).sum + l.getD i 0).toNat = x.getD i [] := by
        rw [q4, show ((l.take i).sum + l.getD i 0).toNat = (l.take i).sum.toNat + (l.getD i 0).toNat by omega, cut_at]
      show law09_PrfBegins_s7 N b l true _ _ _ x = _
      unfold law09_PrfBegins_s7 wire_Equal bytes_Equal
      simp (disch := omega) only [dpos, dneg, w64_of, inR_of, room_of, tmod_of, cond_true, cond_false, Bool.and_self, Bool.and_true, Bool.true_and, Bool.and_false, Bool.false_and, Bool.not_true, Bool.not_false, Option.bind_some, List.length_cons, List.length_nil, Nat.zero_add, Int.toNat_natCast, q5, q6, decide_true, sum_snoc l hi, Int.natCast_add, Int.natCast_one]
    · show law09_PrfBegins_s7 N b l true _ _ _ x = _
      unfold law09_PrfBegins_s7
      simp (disch := omega) only [dpos, dneg, w64_of, inR_of, room_of, tmod_of, cond_true, cond_false, Bool.and_self, Bool.and_true, Bool.true_and, Bool.and_false, Bool.false_and, Bool.not_true, Bool.not_false, Option.bind_some, List.length_cons, List.length_nil, Nat.zero_add]
    · exact begins_8 N hl hb (by simpa using hs) (fun _ => x1) hN
theorem begins_3 (N : Nat) {b : List UInt8} {s : List UInt8} (hbl : b.length ≤ 1000) (hs : s.length ≤ 50) (hN : 4611686018427387904 ≤ N) : law09_PrfBegins_3 N b s (s.length : Int) 0 [] = some ((true, ()), ()) := by
  unfold law09_PrfBegins_3
  have hlN : s.length < N := by omega
  refine (loopK_run (fun i : Nat => ((b, s, (s.length : Int), (i : Int), ()), ((s.take i).map (fun x => (x.toNat : Int) % 40), ()))) (n := s.length) ?_ (e := ((b, ()), (s.map (fun x => (x.toNat : Int) % 40), ()))) ?_ hlN).trans ?_
  · intro i hi
    have ht : (s.take i).length = i := by simp; omega
    show law09_PrfBegins_s4 N b s _ _ _ = _
    unfold law09_PrfBegins_s4
    simp (disch := omega) only [dpos, dneg, w64_of, inR_of, room_of, tmod_of, cond_true, cond_false, Bool.and_self, Bool.and_true, Bool.true_and, Bool.and_false, Bool.false_and, Bool.not_true, Bool.not_false, Option.bind_some, List.length_cons, List.length_nil, Nat.zero_add, Int.toNat_natCast, List.length_map, ht, Int.natCast_add, Int.natCast_one]
    rw [take_snoc s 0 hi, List.map_append]
    rfl
  · show law09_PrfBegins_s4 N b s _ _ _ = _
    unfold law09_PrfBegins_s4
    simp (disch := omega) only [dpos, dneg, w64_of, inR_of, room_of, tmod_of, cond_true, cond_false, Bool.and_self, Bool.and_true, Bool.true_and, Bool.and_false, Bool.false_and, Bool.not_true, Bool.not_false, Option.bind_some, List.length_cons, List.length_nil, Nat.zero_add, List.take_length]
  · show law09_PrfBegins_5 N b _ = _
    refine begins_5 N hbl (by simpa using hs) (fun x hx => ?_) hN
    obtain ⟨y, _, rfl⟩ := List.mem_map.1 hx
    omega
theorem begins (k : List UInt8) (hk : k.length ≤ 9223372036854775807) (s : List UInt8) (hs : s.length ≤ 9223372036854775807) (n m : UInt8) (z : List UInt8) (hz : z.length ≤ 9223372036854775807) :
    law09_PrfBegins 18446744073709551616 k s n m z = some ((true, ()), ()) := by
  unfold law09_PrfBegins
  rw [awake09]
  generalize hN0 : 18446744073709551616 = N
  have hN : 4611686018427387904 ≤ N := by omega
  clear hN0
  simp only [dpos, dneg, w64_of, inR_of, room_of, tmod_of, cond_true, cond_false, Bool.and_self, Bool.and_true, Bool.true_and, Bool.and_false, Bool.false_and, Bool.not_true, Bool.not_false, Option.bind_some, List.length_cons, List.length_nil, Nat.zero_add]
  unfold law09_PrfBegins_1
  by_cases c1 : (64 : Int) < (k.length : Int)
  · simp (disch := omega) only [dpos, dneg, w64_of, inR_of, room_of, tmod_of, cond_true, cond_false, Bool.and_self, Bool.and_true, Bool.true_and, Bool.and_false, Bool.false_and, Bool.not_true, Bool.not_false, Option.bind_some, List.length_cons, List.length_nil, Nat.zero_add]
  · by_cases c2 : (300 : Int) < (s.length : Int)
    · simp (disch := omega) only [dpos, dneg, w64_of, inR_of, room_of, tmod_of, cond_true, cond_false, Bool.and_self, Bool.and_true, Bool.true_and, Bool.and_false, Bool.false_and, Bool.not_true, Bool.not_false, Option.bind_some, List.length_cons, List.length_nil, Nat.zero_add]
    · by_cases c3 : (50 : Int) < (z.length : Int)
      · simp (disch := omega) only [dpos, dneg, w64_of, inR_of, room_of, tmod_of, cond_true, cond_false, Bool.and_self, Bool.and_true, Bool.true_and, Bool.and_false, Bool.false_and, Bool.not_true, Bool.not_false, Option.bind_some, List.length_cons, List.length_nil, Nat.zero_add]
      · have hn : n.toNat < 256 := n.toNat_lt
        have hm : m.toNat < 256 := m.toNat_lt
        have e1 : ((64 : Int) - (k.length : Int)).toNat = 64 - k.length := by omega
        have l1 : (k ++ List.replicate (64 - k.length) (0 : UInt8)).length = 64 := by
          rw [List.length_append, List.length_replicate]; omega
        have e2 : ((n.toNat : Int) + (m.toNat : Int)).toNat = n.toNat + m.toNat := by omega
        have ep : plus (k ++ List.replicate (64 - k.length) 0) s (n.toNat + m.toNat) = plus k s (n.toNat + m.toNat) := by
          unfold plus; rw [oo_congr (hmac_pad (by omega))]
        have l2 := plus_len k s n.toNat
        have l3 := plus_len k s (n.toNat + m.toNat)
        have ec : cut (plus k s (n.toNat + m.toNat)) 0 n.toNat = plus k s n.toNat := by
          unfold cut; rw [List.drop_zero, plus_take]
        unfold wire_Equal bytes_Equal
        simp (disch := omega) only [dpos, dneg, w64_of, inR_of, room_of, tmod_of, cond_true, cond_false, Bool.and_self, Bool.and_true, Bool.true_and, Bool.and_false, Bool.false_and, Bool.not_true, Bool.not_false, Option.bind_some, List.length_cons, List.length_nil, Nat.zero_add, List.length_replicate, prf_plus, e1, e2, ep, Int.toNat_natCast, ec, decide_true]
        unfold law09_PrfBegins_2
        simp only [dpos, dneg, w64_of, inR_of, room_of, tmod_of, cond_true, cond_false, Bool.and_self, Bool.and_true, Bool.true_and, Bool.and_false, Bool.false_and, Bool.not_true, Bool.not_false, Option.bind_some, List.length_cons, List.length_nil, Nat.zero_add]
        exact begins_3 N (by omega) (by omega) hN
end Go.Proofs.YtlamdneheilahaaDoor.Pl
