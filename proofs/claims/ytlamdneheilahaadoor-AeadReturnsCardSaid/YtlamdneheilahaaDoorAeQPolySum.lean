/- Plain: the tag of Poly1305 (poly1305.Sum) as a number. -/
import Derived.Test.YtlamdneheilahaaDoorAeQPolyLimbs
import Derived.Test.YtlamdneheilahaaDoorFnsAeadReturnsA
set_option linter.unusedVariables false
set_option linter.unusedSimpArgs false
namespace Go.Proofs.YtlamdneheilahaaDoor.Pl
open Go Poly
noncomputable section
theorem cq_us {l : List UInt64} (h : Le 1073741824 (us l)) : us (cq l) = rq 4 (us l) := by
  have h0 := h.2 0 (by omega); have h1 := h.2 1 (by omega); have h2 := h.2 2 (by omega); have h3 := h.2 3 (by omega); have h4 := h.2 4 (by omega)
  obtain ⟨a, b, c, d, e, rfl⟩ := list5u (by simpa [us] using h.1)
  simp only [us, List.map_cons, List.map_nil, List.getD_cons_zero, List.getD_cons_succ] at h0 h1 h2 h3 h4
  have e1 : (b + shr64 a 26).toNat = b.toNat + a.toNat / 67108864 := by rw [addN (by rw [shr26]; omega), shr26]
  have e2 : (c + shr64 (b + shr64 a 26) 26).toNat = c.toNat + (b.toNat + a.toNat / 67108864) / 67108864 := by rw [addN (by rw [shr26, e1]; omega), shr26, e1]
  have e3 : (d + shr64 (c + shr64 (b + shr64 a 26) 26) 26).toNat = d.toNat + (c.toNat + (b.toNat + a.toNat / 67108864) / 67108864) / 67108864 := by rw [addN (by rw [shr26, e2]; omega), shr26, e2]
  have e4 : (e + shr64 (d + shr64 (c + shr64 (b + shr64 a 26) 26) 26) 26).toNat = e.toNat + (d.toNat + (c.toNat + (b.toNat + a.toNat / 67108864) / 67108864) / 67108864) / 67108864 := by rw [addN (by rw [shr26, e3]; omega), shr26, e3]
  exact (congr5 (and26 _) (by rw [and26, e1]) (by rw [and26, e2]) (by rw [and26, e3]) e4).trans (rq_four _ _ _ _ _).symm
theorem reduced_ok (N : Nat) (hN : 4611686018427387904 ≤ N) {l : List UInt64} (h : Le 67108868 (us l)) : ∃ l', poly1305_limbs_reduced N l = some ((l', ()), ()) ∧ Le 67108863 (us l') ∧ v5 (us l') = v5 (us l) % pp := by
  obtain ⟨l1, e1, b1, v1, _⟩ := carry_ok N hN (h.mono (by decide))
  obtain ⟨l2, e2, b2, v2, u2⟩ := carry_ok N hN (bd_le b1)
  have hlow : Le 67108863 (us l2) := by rw [u2]; exact rnd2_low b1
  have hv : v5 (us l2) % pp = v5 (us l) % pp := v2.trans v1
  unfold poly1305_limbs_reduced
  simp only [e1, e2, Option.bind_some]
  have hl := hlow
  have h0 := hlow.2 0 (by omega); have h1 := hlow.2 1 (by omega); have h2 := hlow.2 2 (by omega); have h3 := hlow.2 3 (by omega); have h4 := hlow.2 4 (by omega)
  obtain ⟨a, b, c, d, e, rfl⟩ := list5u (by simpa [us] using hlow.1)
  simp only [us, List.map_cons, List.map_nil, List.getD_cons_zero, List.getD_cons_succ] at h0 h1 h2 h3 h4
  obtain ⟨M, rfl⟩ := Nat.exists_eq_add_of_le' (show 20 ≤ N by omega)
  have h5 : us [a + 5, b, c, d, e] = (us [a, b, c, d, e]).set 0 ((us [a, b, c, d, e]).getD 0 0 + 5) :=
    congr5 (addN (by show a.toNat + 5 < _; omega)) rfl rfl rfl rfl
  have h5l : Le 1073741824 (us [a + 5, b, c, d, e]) := by
    rw [h5]; show Le 1073741824 [a.toNat + 5, b.toNat, c.toNat, d.toNat, e.toNat]
    apply le5 <;> omega
  have hq := cq_us h5l
  rw [h5] at hq
  show ∃ l', poly1305_limbs_reduced_1 (M + 20) 0 [a, b, c, d, e] _ [a + 5, b, c, d, e] = _ ∧ _
  rw [red_un]
  obtain ⟨q0, q1, q2, q3, q4, hq5⟩ : ∃ q0 q1 q2 q3 q4, cq [a + 5, b, c, d, e] = [q0, q1, q2, q3, q4] := ⟨_, _, _, _, _, rfl⟩
  rw [hq5] at hq ⊢
  have hg : ((us [a, b, c, d, e]).set 0 ((us [a, b, c, d, e]).getD 0 0 + 5)) = ((us [a, b, c, d, e]).set 0 ((us [a, b, c, d, e]).getD 0 0 + 5)) := rfl
  have g4 : (rq 4 ((us [a, b, c, d, e]).set 0 ((us [a, b, c, d, e]).getD 0 0 + 5))).getD 4 0 = q4.toNat := by rw [← hq]; rfl
  have hz : shr64 q4 26 = 0 ↔ q4.toNat / 67108864 = 0 := by
    rw [← shr26]
    constructor
    · intro e; rw [e]; rfl
    · intro e; exact UInt64.toNat_inj.1 e
  simp only [List.getD_cons_zero, List.getD_cons_succ]
  by_cases hc : shr64 q4 26 = 0
  · rw [dpos hc]
    exact ⟨_, rfl, hl, by rw [← hv]; exact (red_no hl (by rw [g4]; exact hz.1 hc)).symm⟩
  · rw [dneg hc]
    have hy := red_yes hl (by rw [g4]; exact fun e => hc (hz.2 e))
    refine ⟨_, rfl, ?_⟩
    have e6 : us ([q0, q1, q2, q3, q4].set 4 (q4 &&& 67108863)) = (rq 4 ((us [a, b, c, d, e]).set 0 ((us [a, b, c, d, e]).getD 0 0 + 5))).set 4 ((rq 4 ((us [a, b, c, d, e]).set 0 ((us [a, b, c, d, e]).getD 0 0 + 5))).getD 4 0 % 67108864) := by
      rw [g4, ← hq]
      exact congr5 rfl rfl rfl rfl (and26 _)
    rw [e6]
    exact ⟨hy.1, by rw [← hv]; exact hy.2.symm⟩
theorem list16 {α : Type} {l : List α} (h : l.length = 16) : ∃ a b c d e f g i j k m n o p q r, l = [a, b, c, d, e, f, g, i, j, k, m, n, o, p, q, r] := by
  match l, h with
  | [a, b, c, d, e, f, g, i, j, k, m, n, o, p, q, r], _ => exact ⟨a, b, c, d, e, f, g, i, j, k, m, n, o, p, q, r, rfl⟩
/-- The first half of a key, some of its bits cleared. -/
def clm : List UInt8 → List UInt8
  | [a, b, c, d, e, f, g, i, j, k, m, n, o, p, q, r] => [a, b, c, d &&& 15, e &&& 252, f, g, i &&& 15, j &&& 252, k, m, n &&& 15, o &&& 252, p, q, r &&& 15]
  | l => l
theorem clamp_un (M : Nat) (a b c d e f g i j k m n o p q r : UInt8) : poly1305_clamp (M + 20) [a, b, c, d, e, f, g, i, j, k, m, n, o, p, q, r] = some ((), (clm [a, b, c, d, e, f, g, i, j, k, m, n, o, p, q, r], ())) := by kernel_rfl
theorem clm_len {l : List UInt8} (h : l.length = 16) : (clm l).length = 16 := by
  obtain ⟨a, b, c, d, e, f, g, i, j, k, m, n, o, p, q, r, rfl⟩ := list16 h; rfl
/-- The byte k that the program takes off the limbs. -/
def ob (l : List UInt64) (k : Nat) : UInt8 :=
  if 18 < 8 * k % 26 then (shr64 (l.getD (8 * k / 26) 0) (8 * k % 26) ||| shl64 (l.getD (8 * k / 26 + 1) 0) (26 - 8 * k % 26)).toUInt8 else (shr64 (l.getD (8 * k / 26) 0) (8 * k % 26)).toUInt8
theorem out_un (M : Nat) (a b c d e a' b' c' d' e' : UInt64) : poly1305_Sum_4 (M + 20) 0 [a, b, c, d, e] [a', b', c', d', e'] = some ((true, ()), ((List.range 16).map (ob (cq [a + a', b + b', c + c', d + d', e + e'])), ())) := by kernel_rfl
theorem ob_val {l : List UInt64} (hl : l.length = 5) (hlow : ∀ i, i < 4 → (us l).getD i 0 ≤ 67108863) (h4 : (us l).getD 4 0 ≤ 2147483648) {k : Nat} (hk : k < 16) : (ob l k).toNat = v5 (us l) / 256 ^ k % 256 := by
  rw [← outb_val (by simpa [us] using hl) hlow hk]
  have hg : ∀ j, (l.getD j 0).toNat = (us l).getD j 0 := fun j => by
    simp only [us, List.getD, List.getElem?_map]
    cases l[j]? <;> rfl
  have hs : ∀ (x : UInt64) (m : Nat), (shr64 x m).toNat = x.toNat / 2 ^ m := fun x m => by
    show (x.toBitVec >>> m).toNat = _
    rw [BitVec.toNat_ushiftRight, Nat.shiftRight_eq_div_pow]; rfl
  unfold ob outb
  split
  · rename_i h18
    have hj : 8 * k / 26 < 4 := by omega
    have hj' : 8 * k / 26 + 1 ≤ 4 := by omega
    have hx := hlow (8 * k / 26) hj
    have hy : (us l).getD (8 * k / 26 + 1) 0 ≤ 2147483648 := by
      rcases (by omega : 8 * k / 26 + 1 < 4 ∨ 8 * k / 26 + 1 = 4) with h | h
      · exact Nat.le_trans (hlow _ h) (by decide)
      · rw [h]; exact h4
    have h26 : 8 * k % 26 < 26 := Nat.mod_lt _ (by decide)
    generalize hm : 8 * k % 26 = m at *
    generalize 8 * k / 26 = j at *
    rw [UInt64.toNat_toUInt8, UInt64.toNat_or, hs, hg]
    have hsl : (shl64 (l.getD (j + 1) 0) (26 - m)).toNat = (us l).getD (j + 1) 0 <<< (26 - m) := by
      show ((l.getD (j + 1) 0).toBitVec <<< (26 - m)).toNat = _
      rw [BitVec.toNat_shiftLeft]
      have e : (l.getD (j + 1) 0).toBitVec.toNat = (us l).getD (j + 1) 0 := hg _
      rw [e, Nat.mod_eq_of_lt]
      rw [Nat.shiftLeft_eq]
      have : 2 ^ (26 - m) ≤ 2 ^ 8 := Nat.pow_le_pow_right (by decide) (by omega)
      have := Nat.mul_le_mul hy this
      omega
    have hlt : (us l).getD j 0 / 2 ^ m < 2 ^ (26 - m) := by
      rw [Nat.div_lt_iff_lt_mul (Nat.two_pow_pos m), ← Nat.pow_add, show 26 - m + m = 26 by omega]
      omega
    rw [hsl, Nat.or_comm, ← Nat.shiftLeft_add_eq_or_of_lt hlt, Nat.shiftLeft_eq, Nat.add_comm]
  · rw [UInt64.toNat_toUInt8, hs, hg, Nat.add_zero]
/-- The low 16 bytes of a number. -/
def tagB (v : Nat) : List UInt8 := (List.range 16).map fun k => UInt8.ofNat (v / 256 ^ k % 256)
theorem tagB_len (v : Nat) : (tagB v).length = 16 := by simp [tagB]
def kr (key : List UInt8) : Nat := le (ns (clm (key.take 16)))
def ks (key : List UInt8) : Nat := le (ns (key.drop 16))
/-- The tag. -/
def tag (key b : List UInt8) : List UInt8 := tagB (acc (kr key) 0 b + ks key)
theorem tag_len (key b : List UInt8) : (tag key b).length = 16 := tagB_len _
theorem sum_out (N : Nat) (hN : 4611686018427387904 ≤ N) {v s : List UInt64} (hv : Le 67108863 (us v)) (hs : Le 67108863 (us s)) : poly1305_Sum_4 N 0 v s = some ((true, ()), (tagB (v5 (us v) + v5 (us s)), ())) := by
  obtain ⟨M, rfl⟩ := Nat.exists_eq_add_of_le' (show 20 ≤ N by omega)
  have h0 := hv.2 0 (by omega); have h1 := hv.2 1 (by omega); have h2 := hv.2 2 (by omega); have h3 := hv.2 3 (by omega); have h4 := hv.2 4 (by omega)
  have k0 := hs.2 0 (by omega); have k1 := hs.2 1 (by omega); have k2 := hs.2 2 (by omega); have k3 := hs.2 3 (by omega); have k4 := hs.2 4 (by omega)
  obtain ⟨a, b, c, d, f, rfl⟩ := list5u (by simpa [us] using hv.1)
  obtain ⟨a', b', c', d', f', rfl⟩ := list5u (by simpa [us] using hs.1)
  simp only [us, List.map_cons, List.map_nil, List.getD_cons_zero, List.getD_cons_succ] at h0 h1 h2 h3 h4 k0 k1 k2 k3 k4
  have e : us [a + a', b + b', c + c', d + d', f + f'] = [a.toNat + a'.toNat, b.toNat + b'.toNat, c.toNat + c'.toNat, d.toNat + d'.toNat, f.toNat + f'.toNat] :=
    congr5 (addN (by omega)) (addN (by omega)) (addN (by omega)) (addN (by omega)) (addN (by omega))
  have hle : Le 1073741824 (us [a + a', b + b', c + c', d + d', f + f']) := by rw [e]; apply le5 <;> omega
  have hq := cq_us hle
  have hd := rq_done hle.1
  have hr4 := (rq_le hle (k := 4) (by omega)).2 4 (by omega)
  rw [← hq] at hd hr4
  rw [out_un]
  have hval : v5 (us (cq [a + a', b + b', c + c', d + d', f + f'])) = v5 (us [a, b, c, d, f]) + v5 (us [a', b', c', d', f']) := by
    rw [hd.1, e]
    simp only [us, List.map_cons, List.map_nil, v5, List.getD_cons_zero, List.getD_cons_succ]
    omega
  congr 3
  unfold tagB
  apply List.map_congr_left
  intro k hk
  rw [List.mem_range] at hk
  have := ob_val rfl hd.2 hr4 hk (l := cq [a + a', b + b', c + c', d + d', f + f'])
  rw [hval] at this
  rw [← this]
  exact (UInt8.ofNat_toNat).symm
theorem sum_ok (N : Nat) (hN : 4611686018427387904 ≤ N) {key b : List UInt8} (hk : key.length = 32) (hb : b.length ≤ 9223372036854775807) (hbN : b.length < N) : poly1305_Sum N key b = some ((true, ()), (tag key b, ())) := by
  unfold poly1305_Sum
  have hc : cut key 0 16 = key.take 16 := by simp [cut]
  have hc2 : cut key 16 key.length = key.drop 16 := by simp [cut]
  have ht : (key.take 16).length = 16 := by simp; omega
  have hcl : poly1305_clamp N (key.take 16) = some ((), (clm (key.take 16), ())) := by
    obtain ⟨a, b, c, d, e, f, g, i, j, k, m, n, o, p, q, r, e1⟩ := list16 ht
    obtain ⟨M, rfl⟩ := Nat.exists_eq_add_of_le' (show 20 ≤ N by omega)
    rw [e1]; exact clamp_un M a b c d e f g i j k m n o p q r
  have hcm := clm_len ht
  obtain ⟨r, er, rl, rv⟩ := number_ok N (b := clm (key.take 16)) (by omega) (by omega) hN
  obtain ⟨s, es, sl, sv⟩ := number_ok N (b := key.drop 16) (by simp; omega) (by simp; omega) hN
  simp (disch := omega) only [dpos, dneg, w64_of, inR_of, room_of, tmod_of, cond_true, cond_false, Bool.and_self, Bool.and_true, Bool.true_and, Bool.and_false, Bool.false_and, Bool.not_true, Bool.not_false, Option.bind_some, List.length_cons, List.length_nil, Nat.zero_add, hc, hcl, er]
  unfold poly1305_Sum_1
  have hz : acc (kr key) (v5 (us (List.replicate 5 0)) % pp) b = acc (kr key) 0 b := by
    have e : v5 (us (List.replicate 5 0)) = 0 := by decide
    rw [e, Nat.zero_mod]
  have := loopK_of (N := N) (step := fun y => poly1305_Sum_s2 N y.1.1 y.1.2.1 y.2.1 y.2.2.1) (J := fun (e : (((List UInt8) × Unit) × ((List UInt64) × Unit))) => poly1305_Sum_3 N e.1.1 e.2.1)
    (I := fun y => y.1.1 = key ∧ y.2.1 = r ∧ Le 67108868 (us y.2.2.1) ∧ y.1.2.1.length ≤ 9223372036854775807 ∧ acc (kr key) (v5 (us y.2.2.1) % pp) y.1.2.1 = acc (kr key) 0 b) (μ := fun y => y.1.2.1.length)
    (T := fun x => x = ((true, ()), (tag key b, ()))) ?_
    (x := ((key, b, ()), (r, List.replicate 5 0, ()))) ⟨rfl, rfl, ⟨rfl, fun i hi => by
      rcases (by omega : i = 0 ∨ i = 1 ∨ i = 2 ∨ i = 3 ∨ i = 4) with rfl | rfl | rfl | rfl | rfl <;> exact Nat.zero_le _⟩, hb, hz⟩ (by simp only; omega)
  · obtain ⟨x, h1, rfl⟩ := this
    exact h1
  · rintro ⟨⟨key', l, _⟩, ⟨r', v, _⟩⟩ ⟨h1, h2, h3, h4, h5⟩
    simp only at h1 h2 h3 h4 h5
    subst h1; subst h2
    show ∃ o, poly1305_Sum_s2 N key' l r' v = some o ∧ _
    unfold poly1305_Sum_s2
    by_cases hl : l = []
    · subst hl
      simp (disch := omega) only [dpos, dneg, w64_of, inR_of, room_of, tmod_of, cond_true, cond_false, Bool.and_self, Bool.and_true, Bool.true_and, Bool.and_false, Bool.false_and, Bool.not_true, Bool.not_false, Option.bind_some, List.length_cons, List.length_nil, Nat.zero_add]
      refine ⟨_, rfl, _, ?_, rfl⟩
      show poly1305_Sum_3 N key' v = _
      unfold poly1305_Sum_3
      obtain ⟨w, e1, w1, w2⟩ := reduced_ok N hN h3
      simp (disch := omega) only [dpos, dneg, w64_of, inR_of, room_of, tmod_of, cond_true, cond_false, Bool.and_self, Bool.and_true, Bool.true_and, Bool.and_false, Bool.false_and, Bool.not_true, Bool.not_false, Option.bind_some, List.length_cons, List.length_nil, Nat.zero_add, e1, hc2, es]
      rw [sum_out N hN w1 sl, w2, sv, acc_nil] at *
      rw [h5]
      rfl
    · have hp : 0 < l.length := List.length_pos_iff.2 hl
      have hx : (bif decide ((l.length : Int) < 16) then (l.length : Int) else 16) = ((min 16 l.length : Nat) : Int) := by
        by_cases h : (l.length : Int) < 16
        · rw [dpos h, cond_true]; omega
        · rw [dneg h, cond_false]; omega
      have hcut : cut l 0 (min 16 l.length) = l.take 16 := by
        unfold cut
        rw [List.drop_zero]
        by_cases h : l.length ≤ 16
        · rw [Nat.min_eq_right h, List.take_of_length_le h, List.take_of_length_le (Nat.le_refl _)]
        · rw [Nat.min_eq_left (by omega)]
      have hcut2 : cut l (min 16 l.length) l.length = l.drop 16 := by
        unfold cut
        rw [List.take_of_length_le (Nat.le_refl _)]
        by_cases h : l.length ≤ 16
        · rw [Nat.min_eq_right h, List.drop_of_length_le h, List.drop_of_length_le (Nat.le_refl _)]
        · rw [Nat.min_eq_left (by omega)]
      have htl : (l.take 16).length ≤ 16 := by simp; omega
      have hnl : (l.take 16 ++ [1]).length ≤ 17 := by simp; omega
      obtain ⟨p, ep, p1, p2⟩ := number_ok N (b := l.take 16 ++ [1]) hnl (fun h => by
        have : (l.take 16).length = 16 := by simp at h; simp; omega
        rw [List.getD, List.getElem?_append_right (by omega), this]
        decide) hN
      obtain ⟨v1, e1, a1, a2⟩ := add_ok N hN h3 p1
      obtain ⟨v2, e2, b1, b2⟩ := mul_ok N hN a1 (rl.mono (by decide))
      simp (disch := omega) only [dpos, dneg, w64_of, inR_of, room_of, tmod_of, cond_true, cond_false, Bool.and_self, Bool.and_true, Bool.true_and, Bool.and_false, Bool.false_and, Bool.not_true, Bool.not_false, Option.bind_some, List.length_cons, List.length_nil, Nat.zero_add, hx, Int.toNat_natCast, hcut, hcut2, ep, e1, e2]
      refine ⟨_, rfl, ⟨rfl, rfl, b1, by simp; omega, ?_⟩, by simp; omega⟩
      simp only
      rw [← h5, acc_step _ _ hl]
      congr 1
      have hn : ns (l.take 16 ++ [1]) = (l.take 16).map UInt8.toNat ++ [1] := by simp [ns]
      rw [b2, Nat.mul_mod, a2, p2, rv, hn, ← Nat.mul_mod, Nat.mul_mod (v5 (us v) % pp + _), Nat.mod_add_mod, ← Nat.mul_mod]
      rfl
theorem sum_no (N : Nat) {key b : List UInt8} (hk : key.length ≠ 32) : poly1305_Sum N key b = some ((false, ()), ([], ())) := by
  unfold poly1305_Sum
  simp (disch := omega) only [dpos, dneg, w64_of, inR_of, room_of, tmod_of, cond_true, cond_false, Bool.and_self, Bool.and_true, Bool.true_and, Bool.and_false, Bool.false_and, Bool.not_true, Bool.not_false, Option.bind_some, List.length_cons, List.length_nil, Nat.zero_add]
end
end Go.Proofs.YtlamdneheilahaaDoor.Pl
