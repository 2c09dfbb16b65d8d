/- Plain: the document's boxes (ref05, ref19, ref20): what two have in common, what is left, which packets are in one. -/
import Derived.Test.YtgbkkfpheahdfaaLrQGeo
import Derived.Test.YtgbkkfpheahdfaaLrQLoops
import Derived.Test.YtgbkkfpheahdfaaFnsLookupHidesB
import Derived.Test.YtgbkkfpheahdfaaFnsLookupHidesA
set_option linter.unusedVariables false
set_option linter.unusedSimpArgs false
namespace Go.Proofs.Ytgbkkfpheahdfaa.Pl
open Go
theorem less_ok (N : Nat) (a b : V) : ref05_Less N a b = some ((decide (vk a < vk b), ()), ()) := by
  unfold ref05_Less
  have e := vk_lt a b
  by_cases h1 : a.1 = b.1
  · by_cases h2 : a.2.1 = b.2.1
    · simp only [h1, h2, decide_true, dpos, dneg, w64_of, inR_of, room_of, tmod_of, cond_true, cond_false, Bool.and_self, Bool.and_true, Bool.true_and, Bool.and_false, Bool.false_and, Bool.not_true, Bool.not_false, Option.bind_some, List.length_cons, List.length_nil, Nat.zero_add]
      congr 3
      apply decide_eq_decide.2
      rw [e]
      constructor
      · intro h; exact .inr ⟨h1, .inr ⟨h2, h⟩⟩
      · rintro (h | ⟨_, h | ⟨_, h⟩⟩)
        · omega
        · rw [h2] at h; exact absurd h (UInt64.lt_irrefl _)
        · exact h
    · simp only [h1, dneg h2, decide_true, dpos, dneg, w64_of, inR_of, room_of, tmod_of, cond_true, cond_false, Bool.and_self, Bool.and_true, Bool.true_and, Bool.and_false, Bool.false_and, Bool.not_true, Bool.not_false, Option.bind_some, List.length_cons, List.length_nil, Nat.zero_add]
      congr 3
      apply decide_eq_decide.2
      rw [e]
      constructor
      · intro h; exact .inr ⟨h1, .inl h⟩
      · rintro (h | ⟨_, h | ⟨h, _⟩⟩)
        · omega
        · exact h
        · exact absurd h h2
  · simp only [dneg h1, dpos, dneg, w64_of, inR_of, room_of, tmod_of, cond_true, cond_false, Bool.and_self, Bool.and_true, Bool.true_and, Bool.and_false, Bool.false_and, Bool.not_true, Bool.not_false, Option.bind_some, List.length_cons, List.length_nil, Nat.zero_add]
    congr 3
    apply decide_eq_decide.2
    rw [e]
    constructor
    · intro h; exact .inl h
    · rintro (h | ⟨h, _⟩)
      · exact h
      · exact absurd h h1
theorem greater_ok (N : Nat) (a b : V) : ref05_Greater N a b = some ((if vk a < vk b then b else a, ()), ()) := by
  unfold ref05_Greater
  rw [less_ok]
  by_cases h : vk a < vk b <;> simp [h]
theorem smaller_ok (N : Nat) (a b : V) : ref05_Smaller N a b = some ((if vk b < vk a then b else a, ()), ()) := by
  unfold ref05_Smaller
  rw [less_ok]
  by_cases h : vk b < vk a <;> simp [h]
theorem between_ok (N : Nat) {f : Int} {lo hi : V} (h1 : lo.1 = f) (h2 : hi.1 = f) (a : V) : ref05_Between N a lo hi = some ((inS (lo, hi, ()) (vk a), ()), ()) := by
  unfold ref05_Between
  rw [less_ok, less_ok]
  unfold inS
  simp only [dpos, dneg, w64_of, inR_of, room_of, tmod_of, cond_true, cond_false, Bool.and_self, Bool.and_true, Bool.true_and, Bool.and_false, Bool.false_and, Bool.not_true, Bool.not_false, Option.bind_some, List.length_cons, List.length_nil, Nat.zero_add]
  have q1 := a.2.1.toNat_lt; have q2 := a.2.2.1.toNat_lt; have q3 := lo.2.1.toNat_lt; have q4 := lo.2.2.1.toNat_lt; have q5 := hi.2.1.toNat_lt; have q6 := hi.2.2.1.toNat_lt
  by_cases e : a.1 = lo.1
  · rw [dpos e]
    by_cases h3 : vk a < vk lo
    · simp only [dpos h3, dneg (show ¬ vk lo ≤ vk a by omega), dpos, dneg, w64_of, inR_of, room_of, tmod_of, cond_true, cond_false, Bool.and_self, Bool.and_true, Bool.true_and, Bool.and_false, Bool.false_and, Bool.not_true, Bool.not_false, Option.bind_some, List.length_cons, List.length_nil, Nat.zero_add]
    · by_cases h4 : vk hi < vk a
      · simp only [dneg h3, dpos h4, dpos (show vk lo ≤ vk a by omega), dneg (show ¬ vk a ≤ vk hi by omega), dpos, dneg, w64_of, inR_of, room_of, tmod_of, cond_true, cond_false, Bool.and_self, Bool.and_true, Bool.true_and, Bool.and_false, Bool.false_and, Bool.not_true, Bool.not_false, Option.bind_some, List.length_cons, List.length_nil, Nat.zero_add]
      · simp only [dneg h3, dneg h4, dpos (show vk lo ≤ vk a by omega), dpos (show vk a ≤ vk hi by omega), dpos, dneg, w64_of, inR_of, room_of, tmod_of, cond_true, cond_false, Bool.and_self, Bool.and_true, Bool.true_and, Bool.and_false, Bool.false_and, Bool.not_true, Bool.not_false, Option.bind_some, List.length_cons, List.length_nil, Nat.zero_add]
  · rw [dneg e, cond_false]
    have : ¬ (vk lo ≤ vk a ∧ vk a ≤ vk hi) := by
      unfold vk; rw [h1, h2]; rw [h1] at e; omega
    by_cases h3 : vk lo ≤ vk a
    · rw [dneg (show ¬ vk a ≤ vk hi by omega), Bool.and_false]
    · rw [dneg h3, Bool.false_and]
theorem low_ok (N : Nat) (b : Bx) {k : Nat} (hk : k < 5) : ref20_low N b (k : Int) = some ((((ofB b).getD k s0).1, ()), ()) := by
  rcases k5 hk with rfl | rfl | rfl | rfl | rfl <;> rfl
theorem high_ok (N : Nat) (b : Bx) {k : Nat} (hk : k < 5) : ref20_high N b (k : Int) = some ((((ofB b).getD k s0).2.1, ()), ()) := by
  rcases k5 hk with rfl | rfl | rfl | rfl | rfl <;> rfl
theorem with_ok (N : Nat) {p : Pr} (hp : p.length = 5) {k : Nat} (hk : k < 5) (lo hi : V) : ref20_with N (bxOf p) (k : Int) lo hi = some ((bxOf (p.set k (lo, hi, ())), ()), ()) := by
  match p, hp with
  | [p0, p1, p2, p3, p4], _ => rcases k5 hk with rfl | rfl | rfl | rfl | rfl <;> rfl
theorem back_ok (N : Nat) (v : V) : ref20_back N v = some ((ahead v, ()), ()) := by
  unfold ref20_back ref20_back_1 ahead
  by_cases h : v.2.2.1 = 0 <;> simp [h]
theorem on_ok (N : Nat) (v : V) : ref20_on N v = some ((behind v, ()), ()) := by
  unfold ref20_on behind
  by_cases h : v.2.2.1 + 1 = 0 <;> simp [h]
theorem fam_of {f : Int} {b : Bx} (h : NP f (ofB b)) : b.1.1 = f ∧ b.2.1.1 = f ∧ b.2.2.1.1 = f ∧ b.2.2.2.1.1 = f := by
  have key : ∀ v : V, f * 340282366920938463463374607431768211456 ≤ vk v → vk v ≤ nd f 0 → v.1 = f := by
    intro v h1 h2
    have q1 := v.2.1.toNat_lt; have q2 := v.2.2.1.toNat_lt
    have := (bg_dg (f := f) (k := 0) (by omega)).2
    simp only [dg, Nat.zero_lt_succ, if_true] at this
    unfold vk at h1 h2; omega
  obtain ⟨r1, r2, r3⟩ := h.rng 0 (by omega)
  obtain ⟨t1, t2, t3⟩ := h.rng 1 (by omega)
  have e0 : bg f 0 = f * 340282366920938463463374607431768211456 := rfl
  have e1 : bg f 1 = f * 340282366920938463463374607431768211456 := rfl
  have e2 : nd f 1 = nd f 0 := rfl
  have u1 : ((ofB b).getD 0 s0) = (b.1, b.2.1, ()) := rfl
  have u2 : ((ofB b).getD 1 s0) = (b.2.2.1, b.2.2.2.1, ()) := rfl
  rw [u1] at r1 r2 r3
  rw [u2] at t1 t2 t3
  simp only at r1 r2 r3 t1 t2 t3
  exact ⟨key _ (by omega) (by omega), key _ (by omega) (by omega), key _ (by omega) (by omega), key _ (by omega) (by omega)⟩
theorem okL_fam {a b : Bx} (ha : BOk a) (hb : BOk b) (h : okL (ofB a) (ofB b) = true) : a.1.1 = b.1.1 := by
  obtain ⟨f, hf, na, _⟩ := bok_np ha
  obtain ⟨g, hg, nb, _⟩ := bok_np hb
  have fa := fam_of na
  have fb := fam_of nb
  obtain ⟨s1, s2, s3⟩ := mL_sub h (k := 0) (by omega)
  have hx := mL_low h
  have h1 := (hasP_iff _ _).1 hx.1 0 (by omega)
  have h2 := (hasP_iff _ _).1 hx.2 0 (by omega)
  obtain ⟨r1, r2, r3⟩ := na.rng 0 (by omega)
  obtain ⟨t1, t2, t3⟩ := nb.rng 0 (by omega)
  have d1 := bg_dg (f := f) (k := 0) (by omega)
  have d2 := bg_dg (f := g) (k := 0) (by omega)
  simp only [dg, Nat.zero_lt_succ, if_true] at d1 d2
  have e0 : bg f 0 = f * 340282366920938463463374607431768211456 := rfl
  have e1 : bg g 0 = g * 340282366920938463463374607431768211456 := rfl
  rw [fa.1, fb.1]
  omega
/-- A box is its ranges. -/
theorem bx_id {b : Bx} (h : BOk b) : bxOf (ofB b) = b := by obtain ⟨_, _, _, e⟩ := bok_np h; exact e
def meetB (a b : Bx) : Bx × Bool := (if okL (ofB a) (ofB b) = true then bxOf (mL (ofB a) (ofB b)) else b0, okL (ofB a) (ofB b))
theorem rmeet_ok (N : Nat) (hN : 4611686018427387904 ≤ N) {a b : Bx} (ha : BOk a) (hb : BOk b) : ref20_Meet N a b = some (((meetB a b).1, (meetB a b).2, ()), ()) := by
  unfold ref20_Meet meetB
  by_cases hf : a.1.1 = b.1.1
  · rw [dpos hf]
    simp only [dpos, dneg, w64_of, inR_of, room_of, tmod_of, cond_true, cond_false, Bool.and_self, Bool.and_true, Bool.true_and, Bool.and_false, Bool.false_and, Bool.not_true, Bool.not_false, Option.bind_some, List.length_cons, List.length_nil, Nat.zero_add]
    unfold ref20_Meet_1
    have hl : (ofB a).length = 5 := rfl
    have hm : (mL (ofB a) (ofB b)).length = 5 := rfl
    have := loopK_all (step := fun y => ref20_Meet_s2 N y.1.1 y.2.1 y.2.2.1 y.2.2.2.1 y.2.2.2.2.1) (J := fun (e : ((Unit) × (Bx × Bx × Unit))) => ref20_Meet_3 N e.2.1 e.2.2.1)
      (fun k : Nat => (((k : Int), ()), (a, b, b0, bxOf (cK (ofB a) (mL (ofB a) (ofB b)) k), ()))) (fun k => sok (sm ((ofB a).getD k s0) ((ofB b).getD k s0))) ((b0, false, ()), ()) (n := 5) (e := ((), (b0, bxOf (mL (ofB a) (ofB b)), ()))) ?_ ?_ ?_ (show 5 < N by omega)
    · simp only [cK_0, bx_id ha] at this
      refine this.trans ?_
      have hall : allB (fun k => sok (sm ((ofB a).getD k s0) ((ofB b).getD k s0))) 5 = okL (ofB a) (ofB b) := by
        rw [Bool.eq_iff_iff, allB_iff, okL_iff]
      rw [hall]
      cases okL (ofB a) (ofB b)
      · rfl
      · rfl
    · intro k hk hq
      show ref20_Meet_s2 N _ _ _ _ _ = _
      unfold ref20_Meet_s2
      have hs : ¬ (if vk ((ofB b).getD k s0).2.1 < vk ((ofB a).getD k s0).2.1 then vk ((ofB b).getD k s0).2.1 else vk ((ofB a).getD k s0).2.1) < (if vk ((ofB a).getD k s0).1 < vk ((ofB b).getD k s0).1 then vk ((ofB b).getD k s0).1 else vk ((ofB a).getD k s0).1) := by
        unfold sok sm at hq
        rw [decide_eq_true_eq] at hq
        simp only at hq
        split <;> split at hq <;> split <;> (try split at hq) <;> (try simp_all) <;> omega
      simp only [low_ok N _ hk, high_ok N _ hk, greater_ok, smaller_ok, less_ok, dpos, dneg, w64_of, inR_of, room_of, tmod_of, cond_true, cond_false, Bool.and_self, Bool.and_true, Bool.true_and, Bool.and_false, Bool.false_and, Bool.not_true, Bool.not_false, Option.bind_some, List.length_cons, List.length_nil, Nat.zero_add]
      have e1 : ∀ (c : Prop) [Decidable c] (x y : V), vk (if c then x else y) = if c then vk x else vk y := fun c _ x y => by split <;> rfl
      rw [dpos (show ((k : Nat) : Int) < 5 by omega), e1, e1, dneg hs]
      simp only [dpos, dneg, w64_of, inR_of, room_of, tmod_of, cond_true, cond_false, Bool.and_self, Bool.and_true, Bool.true_and, Bool.and_false, Bool.false_and, Bool.not_true, Bool.not_false, Option.bind_some, List.length_cons, List.length_nil, Nat.zero_add, with_ok N (cK_len' hl hm (show k ≤ 5 by omega)) hk]
      have := cK_set' hl hm hk
      rw [mL_get _ _ hk] at this
      unfold sm at this
      rw [this, w64_of (by omega) (by omega)]
      rfl
    · intro k hk hq
      show ref20_Meet_s2 N _ _ _ _ _ = _
      unfold ref20_Meet_s2
      have hs : (if vk ((ofB b).getD k s0).2.1 < vk ((ofB a).getD k s0).2.1 then vk ((ofB b).getD k s0).2.1 else vk ((ofB a).getD k s0).2.1) < (if vk ((ofB a).getD k s0).1 < vk ((ofB b).getD k s0).1 then vk ((ofB b).getD k s0).1 else vk ((ofB a).getD k s0).1) := by
        unfold sok sm at hq
        rw [decide_eq_false_iff_not] at hq
        simp only at hq
        split <;> split at hq <;> split <;> (try split at hq) <;> (try simp_all) <;> omega
      simp only [low_ok N _ hk, high_ok N _ hk, greater_ok, smaller_ok, less_ok, dpos, dneg, w64_of, inR_of, room_of, tmod_of, cond_true, cond_false, Bool.and_self, Bool.and_true, Bool.true_and, Bool.and_false, Bool.false_and, Bool.not_true, Bool.not_false, Option.bind_some, List.length_cons, List.length_nil, Nat.zero_add]
      have e1 : ∀ (c : Prop) [Decidable c] (x y : V), vk (if c then x else y) = if c then vk x else vk y := fun c _ x y => by split <;> rfl
      rw [dpos (show ((k : Nat) : Int) < 5 by omega), e1, e1, dpos hs]
      rfl
    · show ref20_Meet_s2 N _ _ _ _ _ = _
      unfold ref20_Meet_s2
      rw [cK_5 hl hm]
      rfl
  · have : okL (ofB a) (ofB b) = false := by
      cases h : okL (ofB a) (ofB b)
      · rfl
      · exact absurd (okL_fam ha hb h) hf
    rw [dneg hf, this]
    rfl
theorem mL_np {f : Int} {p q : Pr} (hp : NP f p) (h : okL p q = true) : NP f (mL p q) := sub_np hp (mL_len p q) fun _ hk => mL_sub h hk
theorem rminus_ok (N : Nat) (hN : 4611686018427387904 ≤ N) {a b : Bx} (ha : BOk a) (hb : BOk b) : ref20_Minus N a b = some ((), (mns a b, ())) := by
  unfold ref20_Minus mns
  rw [rmeet_ok N hN ha hb]
  unfold meetB
  simp only [dpos, dneg, w64_of, inR_of, room_of, tmod_of, cond_true, cond_false, Bool.and_self, Bool.and_true, Bool.true_and, Bool.and_false, Bool.false_and, Bool.not_true, Bool.not_false, Option.bind_some, List.length_cons, List.length_nil, Nat.zero_add]
  cases hok : okL (ofB a) (ofB b)
  · rfl
  · simp only [dpos, dneg, w64_of, inR_of, room_of, tmod_of, cond_true, cond_false, Bool.and_self, Bool.and_true, Bool.true_and, Bool.and_false, Bool.false_and, Bool.not_true, Bool.not_false, Option.bind_some, List.length_cons, List.length_nil, Nat.zero_add, if_true]
    obtain ⟨f, hf, na, _⟩ := bok_np ha
    have nm := mL_np na hok
    unfold ref20_Minus_1
    generalize hc : ofB a = c at *
    generalize hmm : mL c (ofB b) = m at *
    have hl : c.length = 5 := na.len
    have hml : m.length = 5 := nm.len
    have := loopK_run (step := fun y => ref20_Minus_s2 N y.1.1 y.2.1 y.2.2.1 y.2.2.2.1) (J := fun (e : ((Unit) × ((List Bx) × Unit))) => ref20_Minus_3 N e.2.1)
      (fun k : Nat => (((k : Int), ()), (bxOf m, outK c m k, bxOf (cK c m k), ()))) (n := 5) (e := ((), (outK c m 5, ()))) ?_ ?_ (show 5 < N by omega)
    · simp only [cK_0] at this
      rw [show bxOf c = a by rw [← hc]; exact bx_id ha] at this
      exact this.trans rfl
    · intro k hk
      have hl5 := outK_len c m k
      have hck := cK_len' hl hml (show k ≤ 5 by omega)
      have hnk := cK_np na hml nm (show k ≤ 5 by omega)
      have e1 : ofB (bxOf m) = m := of_bx nm
      have e2 : ofB (bxOf (cK c m k)) = cK c m k := of_bx hnk
      have e3 := cK_set' hl hml hk
      show ref20_Minus_s2 N _ _ _ _ = _
      unfold ref20_Minus_s2
      show _ = some (Lo.go ((((k + 1 : Nat) : Int), ()), (bxOf m, outK c m k ++ pcs (cK c m k) m k, bxOf (cK c m (k + 1)), ())))
      unfold pcs
      simp only [low_ok N _ hk, high_ok N _ hk, less_ok, back_ok, on_ok, with_ok N hck hk, e1, e2, dpos, dneg, w64_of, inR_of, room_of, tmod_of, cond_true, cond_false, Bool.and_self, Bool.and_true, Bool.true_and, Bool.and_false, Bool.false_and, Bool.not_true, Bool.not_false, Option.bind_some, List.length_cons, List.length_nil, Nat.zero_add]
      have e3' : (cK c m k).set k ((m.getD k s0).1, (m.getD k s0).2.1, ()) = cK c m (k + 1) := e3
      rw [dpos (show ((k : Nat) : Int) < 5 by omega), e3']
      have hw : w64 ((k : Int) + 1) = ((k + 1 : Nat) : Int) := by rw [w64_of (by omega) (by omega)]; rfl
      rw [hw]
      by_cases q1 : vk ((cK c m k).getD k s0).1 < vk (m.getD k s0).1
      · rw [dpos q1, if_pos q1]
        by_cases q2 : vk (m.getD k s0).2.1 < vk ((cK c m k).getD k s0).2.1
        · rw [dpos q2, if_pos q2]; simp (disch := omega) only [dpos, dneg, w64_of, inR_of, room_of, tmod_of, cond_true, cond_false, Bool.and_self, Bool.and_true, Bool.true_and, Bool.and_false, Bool.false_and, Bool.not_true, Bool.not_false, Option.bind_some, List.length_cons, List.length_nil, Nat.zero_add, List.length_append, List.append_assoc]
        · rw [dneg q2, if_neg q2]; simp (disch := omega) only [dpos, dneg, w64_of, inR_of, room_of, tmod_of, cond_true, cond_false, Bool.and_self, Bool.and_true, Bool.true_and, Bool.and_false, Bool.false_and, Bool.not_true, Bool.not_false, Option.bind_some, List.length_cons, List.length_nil, Nat.zero_add, List.append_nil]
      · rw [dneg q1, if_neg q1]
        by_cases q2 : vk (m.getD k s0).2.1 < vk ((cK c m k).getD k s0).2.1
        · rw [dpos q2, if_pos q2]; simp (disch := omega) only [dpos, dneg, w64_of, inR_of, room_of, tmod_of, cond_true, cond_false, Bool.and_self, Bool.and_true, Bool.true_and, Bool.and_false, Bool.false_and, Bool.not_true, Bool.not_false, Option.bind_some, List.length_cons, List.length_nil, Nat.zero_add, List.nil_append]
        · rw [dneg q2, if_neg q2, List.append_nil, List.append_nil]; rfl
    · show ref20_Minus_s2 N _ _ _ _ = _
      unfold ref20_Minus_s2
      rfl
/-! Equality of data that can be compared. -/
theorem dqL_refl {α : Type} {f : α → α → Bool} (h : ∀ x, f x x = true) : ∀ l : List α, dqL f l l = true
  | [] => rfl
  | x :: l => by simp only [dqL, h x, dqL_refl h l, Bool.and_self]
theorem dq_refl : ∀ (t : Ty) (x : t.den), t.flat = true → dq t x x = true := by
  intro t
  induction t with
  | sl t ih => intro x h; simp [Ty.flat] at h
  | arr n t ih => intro x h; exact dqL_refl (fun y => ih y (by simpa [Ty.flat] using h)) x
  | pair a b iha ihb =>
    intro x h
    simp only [Ty.flat, Bool.and_eq_true] at h
    simp only [dq, iha _ h.1, ihb _ h.2, Bool.and_self]
  | unit => intro x _; rfl
  | _ => intro x _; simp only [dq, decide_true]
theorem dqV (x y : V) : dq (.pair .i64 (.pair .u64 (.pair .u64 .unit))) x y = decide (x = y) := by
  obtain ⟨a, b, c, _⟩ := x
  obtain ⟨a', b', c', _⟩ := y
  simp only [dq, Bool.and_true]
  rw [Bool.eq_iff_iff]
  simp only [Bool.and_eq_true, decide_eq_true_eq, Prod.mk.injEq, and_true]
theorem same_boxes (N : Nat) (hN : 4611686018427387904 ≤ N) (l : List Bx) (hl : l.length ≤ 1000000) : ref19_SameBoxes N l l = some ((true, ()), ()) := by
  unfold ref19_SameBoxes ref19_SameBoxes_1
  simp (disch := omega) only [dpos, dneg, w64_of, inR_of, room_of, tmod_of, cond_true, cond_false, Bool.and_self, Bool.and_true, Bool.true_and, Bool.and_false, Bool.false_and, Bool.not_true, Bool.not_false, Option.bind_some, List.length_cons, List.length_nil, Nat.zero_add]
  refine (loopK_run (fun i : Nat => ((l, l, (i : Int), ()), ())) (n := l.length) ?_ (e := ((), ())) ?_ (by omega)).trans rfl
  · intro i hi
    show ref19_SameBoxes_s2 N _ _ _ = _
    unfold ref19_SameBoxes_s2
    simp (disch := omega) only [dpos, dneg, w64_of, inR_of, room_of, tmod_of, cond_true, cond_false, Bool.and_self, Bool.and_true, Bool.true_and, Bool.and_false, Bool.false_and, Bool.not_true, Bool.not_false, Option.bind_some, List.length_cons, List.length_nil, Nat.zero_add, Int.toNat_natCast, dq_refl _ _ (show Ty.flat (.pair (.pair .i64 (.pair .u64 (.pair .u64 .unit))) (.pair (.pair .i64 (.pair .u64 (.pair .u64 .unit))) (.pair (.pair .i64 (.pair .u64 (.pair .u64 .unit))) (.pair (.pair .i64 (.pair .u64 (.pair .u64 .unit))) (.pair .i64 (.pair .i64 (.pair (.arr 2 .i64) (.pair (.arr 2 .i64) .unit)))))))) = true from rfl), Int.natCast_add, Int.natCast_one]
  · show ref19_SameBoxes_s2 N _ _ _ = _
    unfold ref19_SameBoxes_s2
    simp (disch := omega) only [dpos, dneg, w64_of, inR_of, room_of, tmod_of, cond_true, cond_false, Bool.and_self, Bool.and_true, Bool.true_and, Bool.and_false, Bool.false_and, Bool.not_true, Bool.not_false, Option.bind_some, List.length_cons, List.length_nil, Nat.zero_add]
/-! Packets. -/
abbrev Pk := V × (V × (Int × (Int × (Int × Unit))))
def POk (p : Pk) : Prop := (-1 ≤ p.2.2.1 ∧ p.2.2.1 ≤ 65535) ∧ (-1 ≤ p.2.2.2.1 ∧ p.2.2.2.1 ≤ 65535) ∧ (-1 ≤ p.2.2.2.2.1 ∧ p.2.2.2.2.1 ≤ 65535)
/-- The packet as it is seen from this gateway. -/
def turn (p : Pk) (o : Bool) : Pk := bif o then p else (p.2.1, p.1, p.2.2.1, p.2.2.2.2.1, p.2.2.2.1, ())
theorem turn_pok {p : Pk} (h : POk p) (o : Bool) : POk (turn p o) := by
  obtain ⟨h1, h2, h3⟩ := h
  cases o
  · exact ⟨h1, h3, h2⟩
  · exact ⟨h1, h2, h3⟩
/-- The point of a packet. -/
def pt (p : Pk) : Nat → Int
  | 0 => vk p.1
  | 1 => vk p.2.1
  | 2 => p.2.2.1 + 1
  | 3 => p.2.2.2.1 + 1
  | _ => p.2.2.2.2.1 + 1
def hasB (b : Bx) (p : Pk) (o : Bool) : Bool := hasP (ofB b) (pt (turn p o))
theorem rturn_ok (N : Nat) (p : Pk) (o : Bool) : ref20_Turn N p o = some ((turn p o, ()), ()) := by cases o <;> rfl
theorem num_in {lo hi x : Int} (h1 : -1 ≤ lo) (h2 : lo ≤ 65535) (h3 : -1 ≤ hi) (h4 : hi ≤ 65535) : inS (nv lo, nv hi, ()) (x + 1) = (decide (lo ≤ x) && decide (x ≤ hi)) := by
  unfold inS
  simp only
  rw [vk_nv h1 h2, vk_nv h3 h4]
  congr 1 <;> apply decide_eq_decide.2 <;> omega
theorem rhas_ok (N : Nat) {b : Bx} (hb : BOk b) (p : Pk) (o : Bool) : ref20_Has N b p o = some ((hasB b p o, ()), ()) := by
  obtain ⟨f, hf, nb, _⟩ := bok_np hb
  have hfam := fam_of nb
  unfold ref20_Has hasB
  rw [rturn_ok]
  simp only [Option.bind_some]
  generalize turn p o = q
  rw [between_ok N hfam.1 hfam.2.1, between_ok N hfam.2.2.1 hfam.2.2.2]
  simp only [Option.bind_some]
  obtain ⟨p1, p2, p3⟩ := hb.proto
  obtain ⟨x, y, e1, x1, x2, x3⟩ := hb.lport
  obtain ⟨u, v, e2, u1, u2, u3⟩ := hb.rport
  have hh : hasP (ofB b) (pt q) = (inS (b.1, b.2.1, ()) (vk q.1) && (inS (b.2.2.1, b.2.2.2.1, ()) (vk q.2.1) && (inS (nv b.2.2.2.2.1, nv b.2.2.2.2.2.1, ()) (q.2.2.1 + 1) && (inS (nv x, nv y, ()) (q.2.2.2.1 + 1) && inS (nv u, nv v, ()) (q.2.2.2.2.1 + 1))))) := by
    unfold hasP ofB
    rw [e1, e2]
    rfl
  rw [hh, num_in (by omega) (by omega) (by omega) (by omega), num_in (by omega) (by omega) (by omega) (by omega), num_in (by omega) (by omega) (by omega) (by omega), e1, e2]
  simp only [List.getD_cons_zero, List.getD_cons_succ]
  cases inS (b.1, b.2.1, ()) (vk q.1)
  · rfl
  cases inS (b.2.2.1, b.2.2.2.1, ()) (vk q.2.1)
  · rfl
  cases decide (b.2.2.2.2.1 ≤ q.2.2.1)
  · rfl
  cases decide (q.2.2.1 ≤ b.2.2.2.2.2.1)
  · rfl
  cases decide (x ≤ q.2.2.2.1)
  · rfl
  cases decide (q.2.2.2.1 ≤ y)
  · rfl
  cases decide (u ≤ q.2.2.2.2.1)
  · rfl
  · rfl
theorem side_has (N : Nat) (hN : 4611686018427387904 ≤ N) (s : Sd) (v : V) : decorrelate_side_has N s v = some ((inS s (vk v), ()), ()) := by
  unfold decorrelate_side_has inS
  rw [compare_ok N _ _ hN, compare_ok N _ _ hN]
  simp only [Option.bind_some, cv_le]
  by_cases h1 : vk s.1 ≤ vk v <;> simp [h1]
theorem has_ok (N : Nat) (hN : 4611686018427387904 ≤ N) (b : Bx) {p : Pk} (hp : POk p) (o : Bool) : decorrelate_Has N b p o = some ((hasB b p o, ()), ()) := by
  have key : ∀ q : Pk, POk q → decorrelate_Has_1 N b q = some ((hasP (ofB b) (pt q), ()), ()) := by
    intro q hq
    obtain ⟨h1, h2, h3⟩ := hq
    unfold decorrelate_Has_1
    rw [of_box]
    show decorrelate_Has_2 N (ofB b) 0 [q.1, q.2.1, nv q.2.2.1, nv q.2.2.2.1, nv q.2.2.2.2.1] = _
    have hv : ∀ k, k < 5 → vk (([q.1, q.2.1, nv q.2.2.1, nv q.2.2.2.1, nv q.2.2.2.2.1] : List V).getD k v0) = pt q k := by
      intro k hk
      rcases k5 hk with rfl | rfl | rfl | rfl | rfl
      · rfl
      · rfl
      · exact vk_nv h1.1 h1.2
      · exact vk_nv h2.1 h2.2
      · exact vk_nv h3.1 h3.2
    generalize ([q.1, q.2.1, nv q.2.2.1, nv q.2.2.2.1, nv q.2.2.2.2.1] : List V) = L at *
    unfold decorrelate_Has_2
    refine (loopK_all (fun k : Nat => ((ofB b, (k : Int), ()), (L, ()))) (fun k => inS ((ofB b).getD k s0) (pt q k)) ((false, ()), ()) (n := 5) (e := ((), ())) ?_ ?_ ?_ (show 5 < N by omega)).trans ?_
    · intro k hk hq
      show decorrelate_Has_s3 N _ _ _ = _
      unfold decorrelate_Has_s3
      have e : ((ofB b).getD k ((0, 0, 0, ()), (0, 0, 0, ()), ())) = (ofB b).getD k s0 := rfl
      have e2 : L.getD k (0, 0, 0, ()) = L.getD k v0 := rfl
      have hk5 : ((k : Nat) : Int) < ((5 : Nat) : Int) := by omega
      have hr : inR (k : Int) 5 = true := inR_of (by omega) hk5
      have hd : decide (((k : Nat) : Int) < (5 : Int)) = true := dpos (by omega)
      simp (disch := omega) only [hd, hr, dpos, dneg, w64_of, inR_of, room_of, tmod_of, cond_true, cond_false, Bool.and_self, Bool.and_true, Bool.true_and, Bool.and_false, Bool.false_and, Bool.not_true, Bool.not_false, Option.bind_some, List.length_cons, List.length_nil, Nat.zero_add, Int.toNat_natCast, e, e2, side_has N hN, hv k hk, hq, Int.natCast_add, Int.natCast_one]
    · intro k hk hq
      show decorrelate_Has_s3 N _ _ _ = _
      unfold decorrelate_Has_s3
      have e : ((ofB b).getD k ((0, 0, 0, ()), (0, 0, 0, ()), ())) = (ofB b).getD k s0 := rfl
      have e2 : L.getD k (0, 0, 0, ()) = L.getD k v0 := rfl
      have hk5 : ((k : Nat) : Int) < ((5 : Nat) : Int) := by omega
      have hr : inR (k : Int) 5 = true := inR_of (by omega) hk5
      have hd : decide (((k : Nat) : Int) < (5 : Int)) = true := dpos (by omega)
      simp (disch := omega) only [hd, hr, dpos, dneg, w64_of, inR_of, room_of, tmod_of, cond_true, cond_false, Bool.and_self, Bool.and_true, Bool.true_and, Bool.and_false, Bool.false_and, Bool.not_true, Bool.not_false, Option.bind_some, List.length_cons, List.length_nil, Nat.zero_add, Int.toNat_natCast, e, e2, side_has N hN, hv k hk, hq, Int.natCast_add, Int.natCast_one]
    · show decorrelate_Has_s3 N _ _ _ = _
      unfold decorrelate_Has_s3
      rfl
    · have hall : allB (fun k => inS ((ofB b).getD k s0) (pt q k)) 5 = hasP (ofB b) (pt q) := by
        rw [Bool.eq_iff_iff, allB_iff, hasP_iff]
        constructor
        · intro h k hk; exact (inS_iff _ _).1 (h k hk)
        · intro h k hk; exact (inS_iff _ _).2 (h k hk)
      rw [hall]
      cases hasP (ofB b) (pt q) <;> rfl
  unfold decorrelate_Has hasB
  cases o
  · exact key (turn p false) (turn_pok hp false)
  · exact key (turn p true) (turn_pok hp true)
theorem rinside_ok (N : Nat) (hN : 4611686018427387904 ≤ N) {a b : Bx} (ha : BOk a) (hb : BOk b) : ref20_Inside N a b = decorrelate_Inside N a b := by
  unfold ref20_Inside decorrelate_Inside
  rw [rmeet_ok N hN ha hb, meet_ok N a b hN]
  rfl
theorem inside_some (N : Nat) (hN : 4611686018427387904 ≤ N) (a b : Bx) : ∃ v, decorrelate_Inside N a b = some ((v, ()), ()) := by
  unfold decorrelate_Inside
  rw [meet_ok N a b hN]
  simp only [Option.bind_some]
  cases okL (ofB a) (ofB b)
  · exact ⟨_, rfl⟩
  · exact ⟨_, rfl⟩
theorem ports_chk (N : Nat) {x y : Int} (h1 : -1 ≤ x) (h2 : x ≤ y) (h3 : y ≤ 65535) : ref19_ports N [x, y] = some ((true, ()), ()) := by
  unfold ref19_ports
  simp only [List.getD_cons_zero, List.getD_cons_succ]
  simp (disch := omega) only [dpos, dneg, w64_of, inR_of, room_of, tmod_of, cond_true, cond_false, Bool.and_self, Bool.and_true, Bool.true_and, Bool.and_false, Bool.false_and, Bool.not_true, Bool.not_false, Option.bind_some, List.length_cons, List.length_nil, Nat.zero_add]
theorem checkbox_ok (N : Nat) (hN : 4611686018427387904 ≤ N) {b : Bx} (hb : BOk b) : ref19_CheckBox N b = some ((0, ()), ()) := by
  obtain ⟨f, hf, nb, _⟩ := bok_np hb
  have hfam := fam_of nb
  obtain ⟨g, hg, s1, s2⟩ := hb.fam
  have hv1 := valid_ok N hg s1.1
  have hv2 := valid_ok N hg s1.2.1
  have hv3 := valid_ok N hg s2.1
  have hv4 := valid_ok N hg s2.2.1
  obtain ⟨M, rfl⟩ : ∃ M, N = M + 6 := ⟨N - 6, by omega⟩
  obtain ⟨p1, p2, p3⟩ := hb.proto
  obtain ⟨x, y, e1, x1, x2, x3⟩ := hb.lport
  obtain ⟨u, v, e2, u1, u2, u3⟩ := hb.rport
  have r0 := (nb.rng 0 (by omega)).2.1
  have r1 := (nb.rng 1 (by omega)).2.1
  have f1 : b.2.1.1 = b.1.1 := by rw [hfam.1, hfam.2.1]
  have f2 : b.2.2.1.1 = b.1.1 := by rw [hfam.1, hfam.2.2.1]
  have f3 : b.2.2.2.1.1 = b.1.1 := by rw [hfam.1, hfam.2.2.2]
  have l1 : ¬ vk b.2.1 < vk b.1 := by have : vk b.1 ≤ vk b.2.1 := r0; omega
  have l2 : ¬ vk b.2.2.2.1 < vk b.2.2.1 := by have : vk b.2.2.1 ≤ vk b.2.2.2.1 := r1; omega
  unfold ref19_CheckBox ref19_CheckBox_1
  have st : ∀ (k : Nat) (w : V), k < 4 → ([b.1, b.2.1, b.2.2.1, b.2.2.2.1] : List V).getD k v0 = w → ref05_Valid (M + 6) w = some ((true, ()), ()) → w.1 = b.1.1 →
      ref19_CheckBox_s2 (M + 6) (k : Int) b [b.1, b.2.1, b.2.2.1, b.2.2.2.1] = some (.go ((((k + 1 : Nat) : Int), ()), (b, [b.1, b.2.1, b.2.2.1, b.2.2.2.1], ()))) := by
    intro k w hk hw hv hf
    unfold ref19_CheckBox_s2
    have e : ([b.1, b.2.1, b.2.2.1, b.2.2.2.1] : List V).getD k (0, 0, 0, ()) = w := hw
    have e0 : ([b.1, b.2.1, b.2.2.1, b.2.2.2.1] : List V).getD 0 (0, 0, 0, ()) = b.1 := rfl
    have hl : ([b.1, b.2.1, b.2.2.1, b.2.2.2.1] : List V).length = 4 := rfl
    have hk4 : ((k : Nat) : Int) < ((4 : Nat) : Int) := by omega
    have hr : inR (k : Int) 4 = true := inR_of (by omega) hk4
    have hr0 : inR (0 : Int) 4 = true := rfl
    have hd : decide (((k : Nat) : Int) < (4 : Int)) = true := dpos (by omega)
    simp (disch := omega) only [hd, hl, hr, hr0, cond_true, cond_false, Int.toNat_natCast, e, e0, hv, hf, Option.bind_some, decide_true, Bool.not_true, w64_of, Int.natCast_add, Int.natCast_one]
  refine (loopK_run (fun k : Nat => (((k : Int), ()), (b, [b.1, b.2.1, b.2.2.1, b.2.2.2.1], ()))) (n := 4) ?_ (e := ((), (b, [b.1, b.2.1, b.2.2.1, b.2.2.2.1], ()))) ?_ (by omega)).trans ?_
  · intro k hk
    have : k = 0 ∨ k = 1 ∨ k = 2 ∨ k = 3 := by omega
    rcases this with rfl | rfl | rfl | rfl
    · exact st 0 _ (by omega) rfl hv1 rfl
    · exact st 1 _ (by omega) rfl hv2 f1
    · exact st 2 _ (by omega) rfl hv3 f2
    · exact st 3 _ (by omega) rfl hv4 f3
  · rfl
  · unfold ref19_CheckBox_3
    simp only [List.getD_cons_zero, List.getD_cons_succ, less_ok]
    rw [dneg l1, dneg l2, e1, e2]
    simp (disch := omega) only [dpos, dneg, w64_of, inR_of, room_of, tmod_of, cond_true, cond_false, Bool.and_self, Bool.and_true, Bool.true_and, Bool.and_false, Bool.false_and, Bool.not_true, Bool.not_false, Option.bind_some, List.length_cons, List.length_nil, Nat.zero_add, ports_chk]
theorem checkbox_0 (N : Nat) (hN : 4611686018427387904 ≤ N) : ref19_CheckBox N b0 = some ((15, ()), ()) := by
  obtain ⟨M, rfl⟩ : ∃ M, N = M + 6 := ⟨N - 6, by omega⟩
  rfl
end Go.Proofs.Ytgbkkfpheahdfaa.Pl
