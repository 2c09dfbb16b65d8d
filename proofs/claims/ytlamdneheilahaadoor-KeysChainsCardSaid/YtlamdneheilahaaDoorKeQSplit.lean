/- Plain: how bytes are cut into pieces; the law PrfMany. -/
import Derived.Test.YtlamdneheilahaaDoorKeQPlus
import Derived.Test.YtlamdneheilahaaDoorFnsKeysChainsA
set_option linter.unusedVariables false
set_option linter.unusedSimpArgs false
namespace Go.Proofs.YtlamdneheilahaaDoor.Pl
open Go
noncomputable section
def spl : List UInt8 → List Int → Option (List (List UInt8))
  | _, [] => some []
  | b, n :: ns => if n < 0 ∨ (b.length : Int) < n then none else (spl (b.drop n.toNat) ns).map (b.take n.toNat :: ·)
theorem spl_cons (b : List UInt8) (n : Int) (ns : List Int) : spl b (n :: ns) = if n < 0 ∨ (b.length : Int) < n then none else (spl (b.drop n.toNat) ns).map (b.take n.toNat :: ·) := by rw [spl]
def splR : Option (List (List UInt8)) → (Bool × Unit) × (List (List UInt8) × Unit)
  | some l => ((true, ()), (l, ()))
  | none => ((false, ()), ([], ()))
theorem spl_elem {b : List UInt8} {ns : List Int} {l : List (List UInt8)} (h : spl b ns = some l) : l.length = ns.length ∧ ∀ x ∈ l, x.length ≤ b.length := by
  induction ns generalizing b l with
  | nil => simp [spl] at h; subst h; simp
  | cons n ns ih =>
    unfold spl at h
    split at h
    · cases h
    · obtain ⟨m, hm, rfl⟩ := Option.map_eq_some_iff.1 h
      obtain ⟨h1, h2⟩ := ih hm
      refine ⟨by simp [h1], fun x hx => ?_⟩
      rcases List.mem_cons.1 hx with rfl | hx
      · simp; omega
      · have := h2 x hx; simp at this; omega
theorem drop_getD {sizes : List Int} {i : Nat} (h : i < sizes.length) : sizes.drop i = sizes.getD i 0 :: sizes.drop (i + 1) := by
  rw [List.drop_eq_getElem_cons h]; simp [List.getD, h]
theorem prf_split (N : Nat) {b : List UInt8} {sizes : List Int} (hb : b.length ≤ 17592186044416) (hs : sizes.length ≤ 1000000) (hN : 4611686018427387904 ≤ N) : prf_Split N b sizes = some (splR (spl b sizes)) := by
  unfold prf_Split prf_Split_1
  have := loopK_of (N := N) (step := fun y => prf_Split_s2 N y.1.1 y.1.2.1 y.1.2.2.1 y.1.2.2.2.1 y.2.1) (J := fun (e : ((Unit) × ((List (List UInt8)) × Unit))) => prf_Split_3 N e.2.1)
    (I := fun y => y.1.2.1 = sizes ∧ y.1.2.2.1 = (sizes.length : Int) ∧ 0 ≤ y.1.2.2.2.1 ∧ y.1.2.2.2.1 ≤ (sizes.length : Int) ∧ y.1.1.length ≤ b.length ∧ y.2.1.length = y.1.2.2.2.1.toNat ∧ spl b sizes = (spl y.1.1 (sizes.drop y.1.2.2.2.1.toNat)).map (y.2.1 ++ ·))
    (μ := fun y => ((sizes.length : Int) - y.1.2.2.2.1).toNat) (T := fun r => r = splR (spl b sizes)) ?_
    (x := ((b, sizes, (sizes.length : Int), 0, ()), ([], ()))) ⟨rfl, rfl, by simp, by simp, by simp, by simp, by simp⟩ (by simp; omega)
  · obtain ⟨r, h1, rfl⟩ := this
    exact h1
  · rintro ⟨⟨b', sz, n, i, _⟩, ⟨l, _⟩⟩ ⟨h1, h2, h3, h4, h5, h6, h7⟩
    simp only at h1 h2 h3 h4 h5 h6 h7
    subst h1; subst h2
    obtain ⟨k, rfl⟩ := Int.eq_ofNat_of_zero_le h3
    simp only [Int.toNat_natCast] at h6 h7
    show ∃ o, prf_Split_s2 N b' sz (sz.length : Int) (k : Int) l = some o ∧ _
    unfold prf_Split_s2
    by_cases hk : (k : Int) < (sz.length : Int)
    · rw [drop_getD (by omega)] at h7
      simp (disch := omega) only [dpos, dneg, w64_of, inR_of, room_of, tmod_of, cond_true, cond_false, Bool.and_self, Bool.and_true, Bool.true_and, Bool.and_false, Bool.false_and, Bool.not_true, Bool.not_false, Option.bind_some, List.length_cons, List.length_nil, Nat.zero_add, Int.toNat_natCast]
      rw [spl_cons] at h7
      by_cases c1 : sz.getD k 0 < 0
      · rw [if_pos (.inl c1)] at h7
        simp (disch := omega) only [dpos, dneg, w64_of, inR_of, room_of, tmod_of, cond_true, cond_false, Bool.and_self, Bool.and_true, Bool.true_and, Bool.and_false, Bool.false_and, Bool.not_true, Bool.not_false, Option.bind_some, List.length_cons, List.length_nil, Nat.zero_add]
        exact ⟨_, rfl, by simp [h7, splR]⟩
      · by_cases c2 : (b'.length : Int) < sz.getD k 0
        · rw [if_pos (.inr c2)] at h7
          simp (disch := omega) only [dpos, dneg, w64_of, inR_of, room_of, tmod_of, cond_true, cond_false, Bool.and_self, Bool.and_true, Bool.true_and, Bool.and_false, Bool.false_and, Bool.not_true, Bool.not_false, Option.bind_some, List.length_cons, List.length_nil, Nat.zero_add]
          exact ⟨_, rfl, by simp [h7, splR]⟩
        · rw [if_neg (by omega)] at h7
          simp (disch := omega) only [dpos, dneg, w64_of, inR_of, room_of, tmod_of, cond_true, cond_false, Bool.and_self, Bool.and_true, Bool.true_and, Bool.and_false, Bool.false_and, Bool.not_true, Bool.not_false, Option.bind_some, List.length_cons, List.length_nil, Nat.zero_add]
          have hd : cut b' (sz.getD k 0).toNat b'.length = b'.drop (sz.getD k 0).toNat := by simp [cut]
          have ht : cut b' 0 (sz.getD k 0).toNat = b'.take (sz.getD k 0).toNat := by simp [cut]
          rw [hd, ht]
          refine ⟨_, rfl, ⟨rfl, rfl, by simp only; omega, by simp only; omega, by simp; omega, by simp; omega, ?_⟩, by simp only; omega⟩
          simp only [show ((k : Int) + 1).toNat = k + 1 by omega]
          rw [h7, Option.map_map]
          congr 1
          funext y
          simp
    · have hke : k = sz.length := by omega
      subst hke
      simp (disch := omega) only [dpos, dneg, w64_of, inR_of, room_of, tmod_of, cond_true, cond_false, Bool.and_self, Bool.and_true, Bool.true_and, Bool.and_false, Bool.false_and, Bool.not_true, Bool.not_false, Option.bind_some, List.length_cons, List.length_nil, Nat.zero_add]
      refine ⟨_, rfl, _, rfl, ?_⟩
      rw [h7, List.drop_length]
      simp [spl, splR]
theorem ref_split (N : Nat) {b : List UInt8} {sizes : List Int} (hb : b.length ≤ 17592186044416) (hs : sizes.length ≤ 1000000) (hN : 4611686018427387904 ≤ N) : ref09_Split N b sizes = some (splR (spl b sizes)) := by
  unfold ref09_Split ref09_Split_1
  have := loopK_of (N := N) (step := fun y => ref09_Split_s2 N y.1.1 y.1.2.1 y.1.2.2.1 y.1.2.2.2.1 y.2.1) (J := fun (e : ((Unit) × ((List (List UInt8)) × Unit))) => ref09_Split_3 N e.2.1)
    (I := fun y => y.1.1 = b ∧ y.1.2.1 = sizes ∧ 0 ≤ y.1.2.2.1 ∧ y.1.2.2.1 ≤ (b.length : Int) ∧ 0 ≤ y.1.2.2.2.1 ∧ y.1.2.2.2.1 ≤ (sizes.length : Int) ∧ y.2.1.length = y.1.2.2.2.1.toNat ∧ spl b sizes = (spl (b.drop y.1.2.2.1.toNat) (sizes.drop y.1.2.2.2.1.toNat)).map (y.2.1 ++ ·))
    (μ := fun y => ((sizes.length : Int) - y.1.2.2.2.1).toNat) (T := fun r => r = splR (spl b sizes)) ?_
    (x := ((b, sizes, 0, 0, ()), ([], ()))) ⟨rfl, rfl, by simp, by simp, by simp, by simp, by simp, by simp⟩ (by simp; omega)
  · obtain ⟨r, h1, rfl⟩ := this
    exact h1
  · rintro ⟨⟨b', sz, at_, i, _⟩, ⟨l, _⟩⟩ ⟨h1, h2, h3, h4, h3', h4', h6, h7⟩
    simp only at h1 h2 h3 h4 h3' h4' h6 h7
    subst h1; subst h2
    obtain ⟨k, rfl⟩ := Int.eq_ofNat_of_zero_le h3'
    obtain ⟨a, rfl⟩ := Int.eq_ofNat_of_zero_le h3
    simp only [Int.toNat_natCast] at h6 h7
    show ∃ o, ref09_Split_s2 N b' sz (a : Int) (k : Int) l = some o ∧ _
    unfold ref09_Split_s2
    by_cases hk : (k : Int) < (sz.length : Int)
    · rw [drop_getD (by omega)] at h7
      simp (disch := omega) only [dpos, dneg, w64_of, inR_of, room_of, tmod_of, cond_true, cond_false, Bool.and_self, Bool.and_true, Bool.true_and, Bool.and_false, Bool.false_and, Bool.not_true, Bool.not_false, Option.bind_some, List.length_cons, List.length_nil, Nat.zero_add, Int.toNat_natCast]
      rw [spl_cons] at h7
      have hdl : ((b'.drop a).length : Int) = (b'.length : Int) - (a : Int) := by simp; omega
      by_cases c1 : sz.getD k 0 < 0
      · rw [if_pos (.inl c1)] at h7
        simp (disch := omega) only [dpos, dneg, w64_of, inR_of, room_of, tmod_of, cond_true, cond_false, Bool.and_self, Bool.and_true, Bool.true_and, Bool.and_false, Bool.false_and, Bool.not_true, Bool.not_false, Option.bind_some, List.length_cons, List.length_nil, Nat.zero_add]
        exact ⟨_, rfl, by simp [h7, splR]⟩
      · by_cases c2 : (b'.length : Int) - (a : Int) < sz.getD k 0
        · rw [if_pos (.inr (by omega))] at h7
          simp (disch := omega) only [dpos, dneg, w64_of, inR_of, room_of, tmod_of, cond_true, cond_false, Bool.and_self, Bool.and_true, Bool.true_and, Bool.and_false, Bool.false_and, Bool.not_true, Bool.not_false, Option.bind_some, List.length_cons, List.length_nil, Nat.zero_add]
          exact ⟨_, rfl, by simp [h7, splR]⟩
        · rw [if_neg (by omega)] at h7
          have hc : cut b' a ((a : Int) + sz.getD k 0).toNat = (b'.drop a).take (sz.getD k 0).toNat := by
            rw [show ((a : Int) + sz.getD k 0).toNat = a + (sz.getD k 0).toNat by omega, cut_at]
          have hcl : ((b'.drop a).take (sz.getD k 0).toNat).length ≤ b'.length := by simp; omega
          simp (disch := omega) only [dpos, dneg, w64_of, inR_of, room_of, tmod_of, cond_true, cond_false, Bool.and_self, Bool.and_true, Bool.true_and, Bool.and_false, Bool.false_and, Bool.not_true, Bool.not_false, Option.bind_some, List.length_cons, List.length_nil, Nat.zero_add, Int.toNat_natCast, hc]
          refine ⟨_, rfl, ⟨rfl, rfl, by simp only; omega, by simp only; omega, by simp only; omega, by simp only; omega, by simp; omega, ?_⟩, by simp only; omega⟩
          simp only [show ((k : Int) + 1).toNat = k + 1 by omega, show ((a : Int) + sz.getD k 0).toNat = a + (sz.getD k 0).toNat by omega]
          rw [h7, Option.map_map, List.drop_drop]
          congr 1
          funext y
          simp
    · have hke : k = sz.length := by omega
      subst hke
      simp (disch := omega) only [dpos, dneg, w64_of, inR_of, room_of, tmod_of, cond_true, cond_false, Bool.and_self, Bool.and_true, Bool.true_and, Bool.and_false, Bool.false_and, Bool.not_true, Bool.not_false, Option.bind_some, List.length_cons, List.length_nil, Nat.zero_add]
      refine ⟨_, rfl, _, rfl, ?_⟩
      rw [h7, List.drop_length]
      simp [spl, splR]
/-- Bytes of a key, or the error. -/
def pl (k s : List UInt8) (n : Int) : List UInt8 × Int := if n < 0 ∨ 8160 < n then ([], 5) else (plus k s n.toNat, 0)
theorem pl_len (k s : List UInt8) (n : Int) : (pl k s n).1.length ≤ 8160 := by
  unfold pl; split
  · simp
  · simp only [plus_len]; omega
theorem prf_pl (N : Nat) {k s : List UInt8} (n : Int) (hk : k.length ≤ 17592186044416) (hs : s.length ≤ 8796093022208) (hN : 4611686018427387904 ≤ N) :
    prf_Plus N k s n = some (((pl k s n).1, (pl k s n).2, ()), ()) := by
  unfold pl
  by_cases h : n < 0
  · unfold prf_Plus prf_Plus_1; simp (disch := omega) only [dpos, dneg, w64_of, inR_of, room_of, tmod_of, cond_true, cond_false, Bool.and_self, Bool.and_true, Bool.true_and, Bool.and_false, Bool.false_and, Bool.not_true, Bool.not_false, Option.bind_some, List.length_cons, List.length_nil, Nat.zero_add, if_pos]
  · by_cases h' : 8160 < n
    · unfold prf_Plus prf_Plus_1; simp (disch := omega) only [dpos, dneg, w64_of, inR_of, room_of, tmod_of, cond_true, cond_false, Bool.and_self, Bool.and_true, Bool.true_and, Bool.and_false, Bool.false_and, Bool.not_true, Bool.not_false, Option.bind_some, List.length_cons, List.length_nil, Nat.zero_add, if_pos]
    · rw [prf_plus N hk hs (by omega) (by omega) hN]; simp (disch := omega) only [if_neg]
theorem ref_pl (N : Nat) {k s : List UInt8} (n : Int) (hk : k.length ≤ 17592186044416) (hs : s.length ≤ 8796093022208) (hN : 4611686018427387904 ≤ N) :
    ref09_Plus N k s n = some (((pl k s n).1, (pl k s n).2, ()), ()) := by
  unfold pl
  by_cases h : n < 0
  · unfold ref09_Plus ref09_Plus_1; simp (disch := omega) only [dpos, dneg, w64_of, inR_of, room_of, tmod_of, cond_true, cond_false, Bool.and_self, Bool.and_true, Bool.true_and, Bool.and_false, Bool.false_and, Bool.not_true, Bool.not_false, Option.bind_some, List.length_cons, List.length_nil, Nat.zero_add, if_pos]
  · by_cases h' : 8160 < n
    · unfold ref09_Plus ref09_Plus_1; simp (disch := omega) only [dpos, dneg, w64_of, inR_of, room_of, tmod_of, cond_true, cond_false, Bool.and_self, Bool.and_true, Bool.true_and, Bool.and_false, Bool.false_and, Bool.not_true, Bool.not_false, Option.bind_some, List.length_cons, List.length_nil, Nat.zero_add, if_pos]
    · rw [ref_plus N hk hs (by omega) (by omega) hN]; simp (disch := omega) only [if_neg]
end
end Go.Proofs.YtlamdneheilahaaDoor.Pl
