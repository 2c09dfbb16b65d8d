/- Plain: boxes as five ranges of numbers, the points in them, and what is left of one box without another. -/
import Derived.Test.YtgbkkfpheahdfaaLrQRange
import Derived.Test.YtgbkkfpheahdfaaLrQMakeBox
set_option linter.unusedVariables false
set_option linter.unusedSimpArgs false
namespace Go.Proofs.Ytgbkkfpheahdfaa.Pl
open Go
/-! Geometry: boxes as five ranges of numbers, and the points in them. -/
/-- Where the values of range k begin, and their last one, for a family. -/
def bg (f : Int) (k : Nat) : Int := if k < 2 then f * 340282366920938463463374607431768211456 else if k = 2 then 1 else 0
def nd (f : Int) (k : Nat) : Int := if k < 2 then (if f = 4 then f * 340282366920938463463374607431768211456 + 4294967295 else f * 340282366920938463463374607431768211456 + 340282366920938463463374607431768211455) else if k = 2 then 256 else 65536
/-- A range that is right: of its kind, and not empty. -/
def NS (f : Int) (k : Nat) (s : Sd) : Prop := bg f k ≤ vk s.1 ∧ vk s.1 ≤ vk s.2.1 ∧ vk s.2.1 ≤ nd f k
structure NP (f : Int) (p : Pr) : Prop where
  len : p.length = 5
  rng : ∀ k, k < 5 → NS f k (p.getD k s0)
def inS (s : Sd) (v : Int) : Bool := decide (vk s.1 ≤ v) && decide (v ≤ vk s.2.1)
def hasP (p : Pr) (x : Nat → Int) : Bool := inS (p.getD 0 s0) (x 0) && (inS (p.getD 1 s0) (x 1) && (inS (p.getD 2 s0) (x 2) && (inS (p.getD 3 s0) (x 3) && inS (p.getD 4 s0) (x 4))))
theorem inS_iff (s : Sd) (v : Int) : inS s v = true ↔ vk s.1 ≤ v ∧ v ≤ vk s.2.1 := by simp [inS]
theorem k5 {k : Nat} (h : k < 5) : k = 0 ∨ k = 1 ∨ k = 2 ∨ k = 3 ∨ k = 4 := by omega
theorem hasP_iff (p : Pr) (x : Nat → Int) : hasP p x = true ↔ ∀ k, k < 5 → vk (p.getD k s0).1 ≤ x k ∧ x k ≤ vk (p.getD k s0).2.1 := by
  unfold hasP
  simp only [Bool.and_eq_true, inS_iff]
  constructor
  · rintro ⟨h0, h1, h2, h3, h4⟩ k hk
    rcases k5 hk with rfl | rfl | rfl | rfl | rfl <;> assumption
  · intro h; exact ⟨h 0 (by omega), h 1 (by omega), h 2 (by omega), h 3 (by omega), h 4 (by omega)⟩
/-- The number of boxes that have a point. -/
def cnt (l : List Pr) (x : Nat → Int) : Nat := l.countP fun p => hasP p x
theorem cnt_app (l m : List Pr) (x : Nat → Int) : cnt (l ++ m) x = cnt l x + cnt m x := List.countP_append
theorem cnt_one (p : Pr) (x : Nat → Int) : cnt [p] x = (hasP p x).toNat := by unfold cnt; simp [List.countP_cons]; cases hasP p x <;> rfl
theorem cnt_nil (x : Nat → Int) : cnt [] x = 0 := rfl
theorem vk_ahead {v : V} {f : Int} (h : f * 340282366920938463463374607431768211456 < vk v) (h' : vk v ≤ f * 340282366920938463463374607431768211456 + 340282366920938463463374607431768211455) : vk (ahead v) = vk v - 1 := by
  obtain ⟨a, hi, lo, _⟩ := v
  unfold vk at *
  unfold ahead
  simp only at *
  have := hi.toNat_lt; have := lo.toNat_lt
  have e : lo = 0 ↔ lo.toNat = 0 := by rw [← UInt64.toNat_inj]; rfl
  by_cases hl : lo = 0
  · rw [if_pos hl]
    have h0 := e.1 hl
    rw [h0] at h h'
    rw [UInt64.toNat_sub, UInt64.toNat_sub, h0]
    simp only [UInt64.toNat_one]
    omega
  · rw [if_neg hl]
    have h0 : lo.toNat ≠ 0 := fun q => hl (e.2 q)
    rw [UInt64.toNat_sub]
    simp only [UInt64.toNat_one]
    omega
theorem vk_behind {v : V} {f : Int} (h : f * 340282366920938463463374607431768211456 ≤ vk v) (h' : vk v < f * 340282366920938463463374607431768211456 + 340282366920938463463374607431768211455) : vk (behind v) = vk v + 1 := by
  obtain ⟨a, hi, lo, _⟩ := v
  unfold vk at *
  unfold behind
  simp only at *
  have := hi.toNat_lt; have := lo.toNat_lt
  have e : lo + 1 = 0 ↔ lo.toNat = 18446744073709551615 := by
    rw [← UInt64.toNat_inj, UInt64.toNat_add]; simp only [UInt64.toNat_one, UInt64.toNat_zero]; omega
  by_cases hl : lo + 1 = 0
  · rw [if_pos hl]
    have h0 := e.1 hl
    rw [hl, UInt64.toNat_add]
    simp only [UInt64.toNat_one, UInt64.toNat_zero]
    omega
  · rw [if_neg hl]
    have h0 : lo.toNat ≠ 18446744073709551615 := fun q => hl (e.2 q)
    rw [UInt64.toNat_add]
    simp only [UInt64.toNat_one]
    omega
/-- The family digit of the values of range k. -/
def dg (f : Int) (k : Nat) : Int := if k < 2 then f else 0
theorem bg_dg {f : Int} {k : Nat} (hk : k < 5) : dg f k * 340282366920938463463374607431768211456 ≤ bg f k ∧ nd f k ≤ dg f k * 340282366920938463463374607431768211456 + 340282366920938463463374607431768211455 := by
  unfold bg nd dg
  rcases k5 hk with rfl | rfl | rfl | rfl | rfl <;> simp <;> (try split) <;> omega
theorem ahead_of {f : Int} {k : Nat} (hk : k < 5) {v : V} (h : bg f k < vk v) (h' : vk v ≤ nd f k) : vk (ahead v) = vk v - 1 := by
  have := bg_dg (f := f) hk
  exact vk_ahead (f := dg f k) (by omega) (by omega)
theorem behind_of {f : Int} {k : Nat} (hk : k < 5) {v : V} (h : bg f k ≤ vk v) (h' : vk v < nd f k) : vk (behind v) = vk v + 1 := by
  have := bg_dg (f := f) hk
  exact vk_behind (f := dg f k) (by omega) (by omega)
/-- The pieces as ranges. -/
def pcP (c m : Pr) (k : Nat) : List Pr :=
  (if vk (c.getD k s0).1 < vk (m.getD k s0).1 then [c.set k ((c.getD k s0).1, ahead (m.getD k s0).1, ())] else []) ++
  (if vk (m.getD k s0).2.1 < vk (c.getD k s0).2.1 then [c.set k (behind (m.getD k s0).2.1, (c.getD k s0).2.1, ())] else [])
def outP (c m : Pr) : Nat → List Pr
  | 0 => []
  | k + 1 => outP c m k ++ pcP (cK c m k) m k
theorem pcs_map (c m : Pr) (k : Nat) : pcs c m k = (pcP c m k).map bxOf := by
  unfold pcs pcP
  rw [List.map_append]
  congr 1 <;> split <;> rfl
theorem outK_map (c m : Pr) : ∀ k, outK c m k = (outP c m k).map bxOf
  | 0 => rfl
  | k + 1 => by simp only [outK, outP, List.map_append, outK_map c m k, pcs_map]
theorem set_get {c : Pr} (hc : c.length = 5) {k j : Nat} (hk : k < 5) (hj : j < 5) (s : Sd) : (c.set k s).getD j s0 = if j = k then s else c.getD j s0 := by
  rw [List.getD_eq_getElem?_getD, List.getElem?_set]
  by_cases h : k = j
  · subst h; rw [if_pos rfl, if_pos (by omega), if_pos rfl]; rfl
  · rw [if_neg h, if_neg (fun e => h e.symm)]; rfl
/-- All ranges but one have the point. -/
def rest (p : Pr) (k : Nat) (x : Nat → Int) : Bool := (decide (0 = k) || inS (p.getD 0 s0) (x 0)) && ((decide (1 = k) || inS (p.getD 1 s0) (x 1)) && ((decide (2 = k) || inS (p.getD 2 s0) (x 2)) && ((decide (3 = k) || inS (p.getD 3 s0) (x 3)) && (decide (4 = k) || inS (p.getD 4 s0) (x 4)))))
theorem rest_iff (p : Pr) (k : Nat) (x : Nat → Int) : rest p k x = true ↔ ∀ j, j < 5 → j ≠ k → vk (p.getD j s0).1 ≤ x j ∧ x j ≤ vk (p.getD j s0).2.1 := by
  unfold rest
  simp only [Bool.and_eq_true, Bool.or_eq_true, decide_eq_true_eq, inS_iff]
  constructor
  · rintro ⟨h0, h1, h2, h3, h4⟩ j hj hjk
    rcases k5 hj with rfl | rfl | rfl | rfl | rfl
    · exact h0.resolve_left hjk
    · exact h1.resolve_left hjk
    · exact h2.resolve_left hjk
    · exact h3.resolve_left hjk
    · exact h4.resolve_left hjk
  · intro h
    have g : ∀ j, j < 5 → j = k ∨ (vk (p.getD j s0).1 ≤ x j ∧ x j ≤ vk (p.getD j s0).2.1) := fun j hj => if e : j = k then .inl e else .inr (h j hj e)
    exact ⟨g 0 (by omega), g 1 (by omega), g 2 (by omega), g 3 (by omega), g 4 (by omega)⟩
theorem hasP_rest (p : Pr) {k : Nat} (hk : k < 5) (x : Nat → Int) : hasP p x = (rest p k x && inS (p.getD k s0) (x k)) := by
  rw [Bool.eq_iff_iff, Bool.and_eq_true, hasP_iff, inS_iff, rest_iff]
  constructor
  · intro h; exact ⟨fun j hj _ => h j hj, h k hk⟩
  · rintro ⟨h, h'⟩ j hj
    by_cases e : j = k
    · subst e; exact h'
    · exact h j hj e
theorem rest_set {c : Pr} (hc : c.length = 5) {k : Nat} (hk : k < 5) (s : Sd) (x : Nat → Int) : rest (c.set k s) k x = rest c k x := by
  rw [Bool.eq_iff_iff, rest_iff, rest_iff]
  constructor
  · intro h j hj hjk
    have := h j hj hjk
    rw [set_get hc hk hj, if_neg hjk] at this; exact this
  · intro h j hj hjk
    rw [set_get hc hk hj, if_neg hjk]; exact h j hj hjk
theorem hasP_set {c : Pr} (hc : c.length = 5) {k : Nat} (hk : k < 5) (s : Sd) (x : Nat → Int) : hasP (c.set k s) x = (rest c k x && inS s (x k)) := by
  rw [hasP_rest _ hk, rest_set hc hk, set_get hc hk hk, if_pos rfl]
/-- A range of a part of a box. -/
def Sub (s t : Sd) : Prop := vk s.1 ≤ vk t.1 ∧ vk t.1 ≤ vk t.2.1 ∧ vk t.2.1 ≤ vk s.2.1
theorem pcP_cnt {f : Int} {c m : Pr} (hc : c.length = 5) {k : Nat} (hk : k < 5) (hn : NS f k (c.getD k s0)) (hs : Sub (c.getD k s0) (m.getD k s0)) (x : Nat → Int) :
    cnt (pcP c m k) x + (hasP (c.set k (m.getD k s0)) x).toNat = (hasP c x).toNat := by
  obtain ⟨n1, n2, n3⟩ := hn
  obtain ⟨q1, q2, q3⟩ := hs
  unfold pcP
  rw [cnt_app, hasP_set hc hk, hasP_rest c hk]
  have e1 : cnt (if vk (c.getD k s0).1 < vk (m.getD k s0).1 then [c.set k ((c.getD k s0).1, ahead (m.getD k s0).1, ())] else []) x = (rest c k x && (decide (vk (c.getD k s0).1 ≤ x k) && decide (x k < vk (m.getD k s0).1))).toNat := by
    split
    · rename_i h
      rw [cnt_one, hasP_set hc hk]
      unfold inS
      simp only
      rw [ahead_of (f := f) hk (by omega) (by omega)]
      congr 3
      apply decide_eq_decide.2; omega
    · rename_i h
      rw [cnt_nil]
      have : (decide (vk (c.getD k s0).1 ≤ x k) && decide (x k < vk (m.getD k s0).1)) = false := by simp only [Bool.and_eq_false_imp, decide_eq_true_eq, decide_eq_false_iff_not]; omega
      rw [this, Bool.and_false]; rfl
  have e2 : cnt (if vk (m.getD k s0).2.1 < vk (c.getD k s0).2.1 then [c.set k (behind (m.getD k s0).2.1, (c.getD k s0).2.1, ())] else []) x = (rest c k x && (decide (vk (m.getD k s0).2.1 < x k) && decide (x k ≤ vk (c.getD k s0).2.1))).toNat := by
    split
    · rename_i h
      rw [cnt_one, hasP_set hc hk]
      unfold inS
      simp only
      rw [behind_of (f := f) hk (by omega) (by omega)]
      congr 3
    · rename_i h
      rw [cnt_nil]
      have : (decide (vk (m.getD k s0).2.1 < x k) && decide (x k ≤ vk (c.getD k s0).2.1)) = false := by simp only [Bool.and_eq_false_imp, decide_eq_true_eq, decide_eq_false_iff_not]; omega
      rw [this, Bool.and_false]; rfl
  rw [e1, e2]
  unfold inS
  generalize x k = y at *
  generalize vk (c.getD k s0).1 = a at *
  generalize vk (c.getD k s0).2.1 = b at *
  generalize vk (m.getD k s0).1 = u at *
  generalize vk (m.getD k s0).2.1 = v at *
  cases rest c k x
  · rfl
  · simp only [Bool.true_and]
    have key : ∀ p q r s : Bool, p.toNat + q.toNat + r.toNat = s.toNat ↔ (p.toNat + q.toNat + r.toNat = s.toNat) := fun _ _ _ _ => Iff.rfl
    by_cases h1 : a ≤ y <;> by_cases h2 : y < u <;> by_cases h3 : v < y <;> by_cases h4 : y ≤ b <;> by_cases h5 : u ≤ y <;> by_cases h6 : y ≤ v <;> simp [h1, h2, h3, h4, h5, h6] <;> omega
theorem cK_len' {c m : Pr} (hc : c.length = 5) (hm : m.length = 5) {k : Nat} (h : k ≤ 5) : (cK c m k).length = 5 := by unfold cK; simp; omega
theorem cK_getge {c m : Pr} (hm : m.length = 5) {k j : Nat} (hk : k ≤ j) (h : j < 5) : (cK c m k).getD j s0 = c.getD j s0 := by
  unfold cK
  rw [List.getD_eq_getElem?_getD, List.getElem?_append_right (by simp; omega), List.length_take, hm, Nat.min_eq_left (by omega), List.getElem?_drop, ← List.getD_eq_getElem?_getD]
  congr 1; omega
theorem cK_getlt {c m : Pr} (hm : m.length = 5) {k j : Nat} (hk : j < k) (h : k ≤ 5) : (cK c m k).getD j s0 = m.getD j s0 := by
  unfold cK
  rw [List.getD_eq_getElem?_getD, List.getElem?_append_left (by simp; omega), List.getElem?_take, if_pos hk, ← List.getD_eq_getElem?_getD]
theorem ext5 {p q : Pr} (hp : p.length = 5) (hq : q.length = 5) (h : ∀ k, k < 5 → p.getD k s0 = q.getD k s0) : p = q := by
  apply List.ext_getElem (by omega)
  intro i h1 h2
  have := h i (by omega)
  simpa [List.getD_eq_getElem?_getD, List.getElem?_eq_getElem h1, List.getElem?_eq_getElem h2] using this
theorem cK_set' {c m : Pr} (hc : c.length = 5) (hm : m.length = 5) {k : Nat} (h : k < 5) : (cK c m k).set k (m.getD k s0) = cK c m (k + 1) := by
  apply ext5 (by rw [List.length_set]; exact cK_len' hc hm (by omega)) (cK_len' hc hm (by omega))
  intro j hj
  rw [set_get (cK_len' hc hm (by omega)) h hj]
  split
  · rename_i e; subst e; rw [cK_getlt hm (by omega) (by omega)]
  · rename_i e
    by_cases hlt : j < k
    · rw [cK_getlt hm hlt (by omega), cK_getlt hm (by omega) (by omega)]
    · rw [cK_getge hm (by omega) hj, cK_getge hm (by omega) hj]
theorem cK_0 (c m : Pr) : cK c m 0 = c := rfl
theorem cK_5 {c m : Pr} (hc : c.length = 5) (hm : m.length = 5) : cK c m 5 = m := by
  apply ext5 (cK_len' hc hm (by omega)) hm
  intro j hj; rw [cK_getlt hm hj (by omega)]
section
variable {f : Int} {c m : Pr} (hc : NP f c) (hm : m.length = 5) (hs : ∀ k, k < 5 → Sub (c.getD k s0) (m.getD k s0))
include hc hm hs
theorem outP_cnt (x : Nat → Int) : ∀ k, k ≤ 5 → cnt (outP c m k) x + (hasP (cK c m k) x).toNat = (hasP c x).toNat
  | 0, _ => by simp [outP, cnt_nil, cK_0]
  | k + 1, h => by
    have ih := outP_cnt x k (by omega)
    have hp := pcP_cnt (f := f) (c := cK c m k) (m := m) (cK_len' hc.len hm (by omega)) (k := k) (by omega) (by rw [cK_getge hm (Nat.le_refl k) (by omega)]; exact hc.rng k (by omega)) (by rw [cK_getge hm (Nat.le_refl k) (by omega)]; exact hs k (by omega)) x
    rw [cK_set' hc.len hm (by omega)] at hp
    simp only [outP, cnt_app]
    omega
omit hs in
theorem cK_np (hmn : NP f m) {k : Nat} (h : k ≤ 5) : NP f (cK c m k) := by
  refine ⟨cK_len' hc.len hm h, fun j hj => ?_⟩
  by_cases hlt : j < k
  · rw [cK_getlt hm hlt h]; exact hmn.rng j hj
  · rw [cK_getge hm (by omega) hj]; exact hc.rng j hj
theorem sub_np : NP f m := ⟨hm, fun k hk => by
  obtain ⟨a, b, d⟩ := hc.rng k hk
  obtain ⟨q1, q2, q3⟩ := hs k hk
  exact ⟨by omega, q2, by omega⟩⟩
end
theorem np_set {f : Int} {c : Pr} (hc : NP f c) {k : Nat} (hk : k < 5) {s : Sd} (h : NS f k s) : NP f (c.set k s) :=
  ⟨by rw [List.length_set]; exact hc.len, fun j hj => by
    rw [set_get hc.len hk hj]; split
    · rename_i e; subst e; exact h
    · exact hc.rng j hj⟩
theorem pcP_np {f : Int} {c m : Pr} (hc : NP f c) {k : Nat} (hk : k < 5) (hs : Sub (c.getD k s0) (m.getD k s0)) : ∀ p ∈ pcP c m k, NP f p := by
  intro p hp
  obtain ⟨n1, n2, n3⟩ := hc.rng k hk
  obtain ⟨q1, q2, q3⟩ := hs
  unfold pcP at hp
  rcases List.mem_append.1 hp with hp | hp
  · split at hp
    · rename_i h
      obtain rfl := List.mem_singleton.1 hp
      refine np_set hc hk ⟨n1, ?_, ?_⟩ <;> simp only <;> rw [ahead_of (f := f) hk (by omega) (by omega)] <;> omega
    · simp at hp
  · split at hp
    · rename_i h
      obtain rfl := List.mem_singleton.1 hp
      refine np_set hc hk ⟨?_, ?_, n3⟩ <;> simp only <;> rw [behind_of (f := f) hk (by omega) (by omega)] <;> omega
    · simp at hp
theorem outP_np {f : Int} {c m : Pr} (hc : NP f c) (hm : m.length = 5) (hs : ∀ k, k < 5 → Sub (c.getD k s0) (m.getD k s0)) : ∀ k, k ≤ 5 → ∀ p ∈ outP c m k, NP f p
  | 0, _ => by simp [outP]
  | k + 1, h => by
    intro p hp
    simp only [outP] at hp
    rcases List.mem_append.1 hp with hp | hp
    · exact outP_np hc hm hs k (by omega) p hp
    · exact pcP_np (cK_np hc hm (sub_np hc hm hs) (by omega)) (by omega) (by rw [cK_getge hm (Nat.le_refl k) (by omega)]; exact hs k (by omega)) p hp
/-- What is left of a box: ranges. -/
def mnP (a b : Pr) : List Pr := if okL a b = true then outP a (mL a b) 5 else [a]
theorem okL_iff (p q : Pr) : okL p q = true ↔ ∀ k, k < 5 → sok (sm (p.getD k s0) (q.getD k s0)) = true := by
  unfold okL
  simp only [Bool.and_eq_true]
  constructor
  · rintro ⟨h0, h1, h2, h3, h4⟩ k hk
    rcases k5 hk with rfl | rfl | rfl | rfl | rfl <;> assumption
  · intro h; exact ⟨h 0 (by omega), h 1 (by omega), h 2 (by omega), h 3 (by omega), h 4 (by omega)⟩
theorem mL_get (p q : Pr) {k : Nat} (hk : k < 5) : (mL p q).getD k s0 = sm (p.getD k s0) (q.getD k s0) := by
  rcases k5 hk with rfl | rfl | rfl | rfl | rfl <;> rfl
theorem mL_len (p q : Pr) : (mL p q).length = 5 := rfl
theorem sm_has (s t : Sd) (v : Int) : inS (sm s t) v = (inS s v && inS t v) := by
  rw [Bool.eq_iff_iff, Bool.and_eq_true, inS_iff, inS_iff, inS_iff]
  unfold sm; simp only
  split <;> split <;> omega
theorem mL_has (p q : Pr) (x : Nat → Int) : hasP (mL p q) x = (hasP p x && hasP q x) := by
  rw [Bool.eq_iff_iff, Bool.and_eq_true, hasP_iff, hasP_iff, hasP_iff]
  constructor
  · intro h
    refine ⟨fun k hk => ?_, fun k hk => ?_⟩ <;>
    · have := h k hk
      rw [mL_get p q hk, ← inS_iff, sm_has, Bool.and_eq_true, inS_iff, inS_iff] at this
      first | exact this.1 | exact this.2
  · rintro ⟨h1, h2⟩ k hk
    rw [mL_get p q hk, ← inS_iff, sm_has, Bool.and_eq_true, inS_iff, inS_iff]
    exact ⟨h1 k hk, h2 k hk⟩
theorem mL_sub {p q : Pr} (h : okL p q = true) {k : Nat} (hk : k < 5) : Sub (p.getD k s0) ((mL p q).getD k s0) := by
  have := (okL_iff p q).1 h k hk
  rw [mL_get p q hk]
  unfold sok at this
  rw [decide_eq_true_eq] at this
  refine ⟨?_, this, ?_⟩ <;> unfold sm <;> simp only <;> split <;> omega
/-- A point in both: then they meet. -/
theorem okL_of {p q : Pr} {x : Nat → Int} (hp : hasP p x = true) (hq : hasP q x = true) : okL p q = true := by
  rw [okL_iff]
  intro k hk
  have h1 := (hasP_iff p x).1 hp k hk
  have h2 := (hasP_iff q x).1 hq k hk
  unfold sok sm
  rw [decide_eq_true_eq]; simp only
  split <;> split <;> omega
/-- The first point of a box. -/
def low (p : Pr) (k : Nat) : Int := vk (p.getD k s0).1
def high (p : Pr) (k : Nat) : Int := vk (p.getD k s0).2.1
theorem low_in {f : Int} {p : Pr} (h : NP f p) : hasP p (low p) = true := (hasP_iff _ _).2 fun k hk => ⟨Int.le_refl _, (h.rng k hk).2.1⟩
theorem high_in {f : Int} {p : Pr} (h : NP f p) : hasP p (high p) = true := (hasP_iff _ _).2 fun k hk => ⟨(h.rng k hk).2.1, Int.le_refl _⟩
theorem mL_low {p q : Pr} (h : okL p q = true) : hasP p (low (mL p q)) = true ∧ hasP q (low (mL p q)) = true := by
  have hx : hasP (mL p q) (low (mL p q)) = true := (hasP_iff _ _).2 fun k hk => ⟨Int.le_refl _, (mL_sub h hk).2.1⟩
  rw [mL_has, Bool.and_eq_true] at hx
  exact hx
theorem mnP_np {f : Int} {a : Pr} (b : Pr) (ha : NP f a) : ∀ p ∈ mnP a b, NP f p := by
  unfold mnP
  split
  · rename_i h; exact outP_np ha (mL_len _ _) (fun k hk => mL_sub h hk) 5 (by omega)
  · intro p hp; simp at hp; subst hp; exact ha
/-- A POINT OF A BOX IS IN ONE PIECE OF WHAT IS LEFT OR IN THE OTHER BOX. -/
theorem mnP_cnt {f : Int} {a : Pr} (b : Pr) (ha : NP f a) (x : Nat → Int) : cnt (mnP a b) x + (hasP a x && hasP b x).toNat = (hasP a x).toNat := by
  unfold mnP
  split
  · rename_i h
    have := outP_cnt ha (mL_len a b) (fun k hk => mL_sub h hk) x 5 (by omega)
    rw [cK_5 ha.len (mL_len a b), mL_has] at this
    exact this
  · rename_i h
    rw [cnt_one]
    have : (hasP a x && hasP b x) = false := by
      cases h1 : hasP a x
      · rfl
      · cases h2 : hasP b x
        · rfl
        · exact absurd (okL_of h1 h2) h
    rw [this]; rfl
theorem mnP_len (a b : Pr) : (mnP a b).length ≤ 10 := by
  unfold mnP
  split
  · have : ∀ k, (outP a (mL a b) k).length ≤ 2 * k := by
      intro k
      induction k with
      | zero => simp [outP]
      | succ k ih =>
        have h2 : (pcP (cK a (mL a b) k) (mL a b) k).length ≤ 2 := by unfold pcP; split <;> split <;> simp
        simp only [outP, List.length_append]; omega
    exact this 5
  · simp
theorem cnt_pos {l : List Pr} {i : Nat} {p : Pr} (h : l[i]? = some p) {x : Nat → Int} (hx : hasP p x = true) : 0 < cnt l x := List.countP_pos_iff.2 ⟨p, List.mem_of_getElem? h, hx⟩
theorem cnt_two : ∀ {l : List Pr} {i j : Nat} {p q : Pr}, i < j → l[i]? = some p → l[j]? = some q → ∀ {x : Nat → Int}, hasP p x = true → hasP q x = true → 2 ≤ cnt l x
  | [], i, j, p, q, _, h, _, x, _, _ => by simp at h
  | a :: l, 0, j + 1, p, q, _, h, h', x, hp, hq => by
    simp at h h'; subst h
    have := cnt_pos h' hq
    unfold cnt at *
    rw [List.countP_cons, if_pos hp]; omega
  | a :: l, i + 1, j + 1, p, q, hij, h, h', x, hp, hq => by
    have := cnt_two (l := l) (i := i) (j := j) (by omega) (by simpa using h) (by simpa using h') hp hq
    unfold cnt at *
    rw [List.countP_cons]; omega
/-- Boxes that no point has twice do not meet. -/
theorem apart_of {l : List Pr} (h : ∀ x, cnt l x ≤ 1) {i j : Nat} {p q : Pr} (hij : i < j) (hi : l[i]? = some p) (hj : l[j]? = some q) : okL q p = false := by
  cases ho : okL q p
  · rfl
  · obtain ⟨h1, h2⟩ := mL_low ho
    have := cnt_two hij hi hj h2 h1
    have := h (low (mL q p))
    omega
theorem mnP_apart {f : Int} {a : Pr} (b : Pr) (ha : NP f a) {p : Pr} (hp : p ∈ mnP a b) : okL p b = false := by
  cases ho : okL p b
  · rfl
  · obtain ⟨h1, h2⟩ := mL_low ho
    have := mnP_cnt b ha (low (mL p b))
    have h3 : 0 < cnt (mnP a b) (low (mL p b)) := List.countP_pos_iff.2 ⟨p, hp, h1⟩
    rw [h2, Bool.and_true] at this
    omega
theorem mnP_in {f : Int} {a : Pr} (b : Pr) (ha : NP f a) {p : Pr} (hp : p ∈ mnP a b) {x : Nat → Int} (hx : hasP p x = true) : hasP a x = true := by
  have := mnP_cnt b ha x
  have h3 : 0 < cnt (mnP a b) x := List.countP_pos_iff.2 ⟨p, hp, hx⟩
  cases h : hasP a x
  · rw [h] at this; simp at this; omega
  · rfl
/-- A part meets the whole in itself. -/
theorem sm_self {s t : Sd} (h1 : vk t.1 ≤ vk s.1) (h2 : vk s.2.1 ≤ vk t.2.1) : sm s t = s := by
  unfold sm
  rw [if_neg (by omega), if_neg (by omega)]
theorem mnP_inside {f : Int} {a : Pr} (b : Pr) (ha : NP f a) {p : Pr} (hp : p ∈ mnP a b) : okL p a = true ∧ mL p a = p := by
  have hn := mnP_np b ha p hp
  have h1 := mnP_in b ha hp (low_in hn)
  have h2 := mnP_in b ha hp (high_in hn)
  refine ⟨okL_of (low_in hn) h1, ext5 (mL_len _ _) hn.len fun k hk => ?_⟩
  rw [mL_get _ _ hk]
  exact sm_self ((hasP_iff _ _).1 h1 k hk).1 ((hasP_iff _ _).1 h2 k hk).2
/-! Boxes and ranges. -/
theorem iu64_small {n : Int} (h0 : 0 ≤ n) (h1 : n ≤ 1000000) : (iu64 n).toNat = n.toNat := by
  obtain ⟨m, rfl⟩ := Int.eq_ofNat_of_zero_le h0
  unfold iu64
  show (BitVec.ofInt 64 (m : Int)).toNat = _
  rw [BitVec.toNat_ofInt]; omega
theorem vk_nv {n : Int} (h0 : -1 ≤ n) (h1 : n ≤ 65535) : vk (nv n) = n + 1 := by
  unfold vk nv
  simp only
  rw [w64_of (by omega) (by omega), iu64_small (by omega) (by omega)]
  have : ((0 : UInt64).toNat : Int) = 0 := rfl
  rw [this]; omega
theorem small_of {v : V} (h0 : 0 ≤ vk v) (h1 : vk v ≤ 65536) : v.1 = 0 ∧ v.2.1 = 0 ∧ (v.2.2.1.toNat : Int) = vk v := by
  have q1 := v.2.1.toNat_lt; have q2 := v.2.2.1.toNat_lt
  unfold vk at h0 h1
  have e1 : v.1 = 0 := by omega
  have e2 : v.2.1.toNat = 0 := by omega
  refine ⟨e1, UInt64.toNat_inj.1 (by rw [e2]; rfl), ?_⟩
  unfold vk; omega
theorem nm_vk {v : V} (h0 : 0 ≤ vk v) (h1 : vk v ≤ 65536) : nm v = vk v - 1 := by
  obtain ⟨_, _, e⟩ := small_of h0 h1
  unfold nm
  rw [w64_of (x := (v.2.2.1.toNat : Int)) (by omega) (by omega), w64_of (by omega) (by omega), e]
theorem nv_nm {v : V} (h0 : 0 ≤ vk v) (h1 : vk v ≤ 65536) : nv (nm v) = v := by
  apply vk_inj
  rw [nm_vk h0 h1, vk_nv (by omega) (by omega)]; omega
theorem ad_id (v : V) : ad v = v := rfl
theorem ns_small {f : Int} {k : Nat} (h2 : 2 ≤ k) (hk : k < 5) {s : Sd} (h : NS f k s) : 0 ≤ vk s.1 ∧ vk s.1 ≤ 65536 ∧ 0 ≤ vk s.2.1 ∧ vk s.2.1 ≤ 65536 := by
  obtain ⟨a, b, c⟩ := h
  unfold bg at a; unfold nd at c
  have : k = 2 ∨ k = 3 ∨ k = 4 := by omega
  rcases this with rfl | rfl | rfl <;> simp at a c <;> omega
theorem of_bx {f : Int} {p : Pr} (h : NP f p) : ofB (bxOf p) = p := by
  match p, h.len, h.rng with
  | [p0, p1, p2, p3, p4], _, hr =>
    have h2 := ns_small (by omega) (by omega) (hr 2 (by omega))
    have h3 := ns_small (by omega) (by omega) (hr 3 (by omega))
    have h4 := ns_small (by omega) (by omega) (hr 4 (by omega))
    simp only [List.getD_cons_zero, List.getD_cons_succ] at h2 h3 h4
    unfold ofB bxOf
    simp only [List.getD_cons_zero, List.getD_cons_succ, ad_id]
    rw [nv_nm h2.1 h2.2.1, nv_nm h2.2.2.1 h2.2.2.2, nv_nm h3.1 h3.2.1, nv_nm h3.2.2.1 h3.2.2.2, nv_nm h4.1 h4.2.1, nv_nm h4.2.2.1 h4.2.2.2]
theorem aok_vk {f : Int} (hf : f = 4 ∨ f = 6) (v : V) : AOk f v ↔ f * 340282366920938463463374607431768211456 ≤ vk v ∧ vk v ≤ nd f 0 := by
  have q1 := v.2.1.toNat_lt; have q2 := v.2.2.1.toNat_lt
  unfold AOk nd vk
  have e : v.2.1 = 0 ↔ v.2.1.toNat = 0 := by rw [← UInt64.toNat_inj]; rfl
  rw [e]
  rcases hf with rfl | rfl
  · simp only [forall_const, Nat.zero_lt_succ, if_true]
    constructor
    · rintro ⟨h1, h2, h3⟩; rw [h1]; omega
    · rintro ⟨h1, h2⟩
      have h3 : v.1 = 4 := by omega
      rw [h3] at h1 h2
      refine ⟨h3, ?_, ?_⟩ <;> omega
  · simp only [Nat.zero_lt_succ, if_true]
    constructor
    · rintro ⟨h1, h2⟩; rw [h1]; simp; omega
    · rintro ⟨h1, h2⟩; simp at h2; exact ⟨by omega, fun h => absurd h (by decide)⟩
theorem sok_vk {f : Int} (hf : f = 4 ∨ f = 6) (lo hi : V) : SOk f lo hi ↔ f * 340282366920938463463374607431768211456 ≤ vk lo ∧ vk lo ≤ vk hi ∧ vk hi ≤ nd f 0 := by
  unfold SOk
  rw [aok_vk hf, aok_vk hf]
  constructor
  · rintro ⟨⟨h1, h2⟩, ⟨h3, h4⟩, h5, h6⟩
    refine ⟨h1, ?_, h4⟩
    have q1 := lo.2.1.toNat_lt; have q2 := lo.2.2.1.toNat_lt; have q3 := hi.2.1.toNat_lt; have q4 := hi.2.2.1.toNat_lt
    have g1 : lo.1 = f := by
      have := (aok_vk hf lo).2 ⟨h1, h2⟩; exact this.1
    have g2 : hi.1 = f := by
      have := (aok_vk hf hi).2 ⟨h3, h4⟩; exact this.1
    unfold vk; rw [g1, g2]
    by_cases e : lo.2.1.toNat = hi.2.1.toNat
    · have := h6 e; omega
    · omega
  · rintro ⟨h1, h2, h3⟩
    have a1 : AOk f lo := (aok_vk hf lo).2 ⟨h1, by omega⟩
    have a2 : AOk f hi := (aok_vk hf hi).2 ⟨by omega, h3⟩
    have q1 := lo.2.1.toNat_lt; have q2 := lo.2.2.1.toNat_lt; have q3 := hi.2.1.toNat_lt; have q4 := hi.2.2.1.toNat_lt
    have h2' := h2
    unfold vk at h2'
    rw [a1.1, a2.1] at h2'
    refine ⟨⟨h1, by omega⟩, ⟨by omega, h3⟩, by omega, fun e => by omega⟩
theorem bok_np {b : Bx} (h : BOk b) : ∃ f, (f = 4 ∨ f = 6) ∧ NP f (ofB b) ∧ bxOf (ofB b) = b := by
  obtain ⟨⟨f, hf, s1, s2⟩, ⟨p1, p2, p3⟩, ⟨x, y, e1, x1, x2, x3⟩, ⟨u, v, e2, u1, u2, u3⟩⟩ := h
  rw [sok_vk hf] at s1 s2
  refine ⟨f, hf, ⟨rfl, fun k hk => ?_⟩, ?_⟩
  · unfold ofB
    rw [e1, e2]
    rcases k5 hk with rfl | rfl | rfl | rfl | rfl
    · exact s1
    · exact s2
    · show NS f 2 (nv _, nv _, ()); unfold NS; simp only; rw [vk_nv (by omega) (by omega), vk_nv (by omega) (by omega)]; unfold bg nd; simp; omega
    · show NS f 3 (nv x, nv y, ()); unfold NS; simp only; rw [vk_nv (by omega) (by omega), vk_nv (by omega) (by omega)]; unfold bg nd; simp; omega
    · show NS f 4 (nv u, nv v, ()); unfold NS; simp only; rw [vk_nv (by omega) (by omega), vk_nv (by omega) (by omega)]; unfold bg nd; simp; omega
  · have g : ∀ n : Int, -1 ≤ n → n ≤ 65535 → nm (nv n) = n := by
      intro n h0 h1
      have := vk_nv h0 h1
      rw [nm_vk (by omega) (by omega)]; omega
    obtain ⟨a1, a2, a3, a4, a5, a6, a7, a8, a9⟩ := b
    simp only at e1 e2 p1 p2 p3
    subst e1; subst e2
    unfold bxOf ofB
    simp only [List.getD_cons_zero, List.getD_cons_succ, ad_id]
    rw [g _ (by omega) (by omega), g _ (by omega) (by omega), g _ (by omega) (by omega), g _ (by omega) (by omega), g _ (by omega) (by omega), g _ (by omega) (by omega)]
theorem np_bok {f : Int} (hf : f = 4 ∨ f = 6) {p : Pr} (h : NP f p) : BOk (bxOf p) := by
  have r0 := h.rng 0 (by omega); have r1 := h.rng 1 (by omega); have r2 := h.rng 2 (by omega); have r3 := h.rng 3 (by omega); have r4 := h.rng 4 (by omega)
  have h2 := ns_small (by omega) (by omega) r2
  have h3 := ns_small (by omega) (by omega) r3
  have h4 := ns_small (by omega) (by omega) r4
  unfold NS at r2 r3 r4
  simp only [bg, nd] at r2 r3 r4
  refine ⟨⟨f, hf, (sok_vk hf _ _).2 r0, (sok_vk hf _ _).2 r1⟩, ?_, ⟨_, _, rfl, ?_⟩, ⟨_, _, rfl, ?_⟩⟩
  · unfold bxOf; simp only
    rw [nm_vk h2.1 h2.2.1, nm_vk h2.2.2.1 h2.2.2.2]; simp at r2 ⊢; omega
  · rw [nm_vk h3.1 h3.2.1, nm_vk h3.2.2.1 h3.2.2.2]; simp at r3 ⊢; omega
  · rw [nm_vk h4.1 h4.2.1, nm_vk h4.2.2.1 h4.2.2.2]; simp at r4 ⊢; omega
theorem mns_map (a b : Bx) (ha : bxOf (ofB a) = a) : mns a b = (mnP (ofB a) (ofB b)).map bxOf := by
  unfold mns mnP
  split
  · exact outK_map _ _ 5
  · rw [List.map_cons, ha]; rfl
end Go.Proofs.Ytgbkkfpheahdfaa.Pl
