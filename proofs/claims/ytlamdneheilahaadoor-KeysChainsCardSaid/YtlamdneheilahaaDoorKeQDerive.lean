/- Plain: the keys that are derived; the law KeysDerive. -/
import Derived.Test.YtlamdneheilahaaDoorKeQKeys
import Derived.Test.YtlamdneheilahaaDoorKeQSplit
import Derived.Test.YtlamdneheilahaaDoorKeQCodes
import Derived.Test.YtlamdneheilahaaDoorFnsKeysChainsB
set_option linter.unusedVariables false
set_option linter.unusedSimpArgs false
namespace Go.Proofs.YtlamdneheilahaaDoor.Pl
open Go
noncomputable section
theorem awake16 : law16_awake 18446744073709551616 = some ((true, ()), ()) := by kernel_rfl
theorem rnonces_ok (N : Nat) (a b : List UInt8) : ref16_nonces N a b = some ((nok a b, ()), ()) := by
  unfold ref16_nonces nok
  by_cases a1 : 16 ≤ a.length
  · by_cases a2 : a.length ≤ 256
    · by_cases b1 : 16 ≤ b.length
      · by_cases b2 : b.length ≤ 256 <;> simp (disch := omega) only [dpos, dneg, w64_of, inR_of, room_of, tmod_of, cond_true, cond_false, Bool.and_self, Bool.and_true, Bool.true_and, Bool.and_false, Bool.false_and, Bool.not_true, Bool.not_false, Option.bind_some, List.length_cons, List.length_nil, Nat.zero_add]
      · simp (disch := omega) only [dpos, dneg, w64_of, inR_of, room_of, tmod_of, cond_true, cond_false, Bool.and_self, Bool.and_true, Bool.true_and, Bool.and_false, Bool.false_and, Bool.not_true, Bool.not_false, Option.bind_some, List.length_cons, List.length_nil, Nat.zero_add]
    · simp (disch := omega) only [dpos, dneg, w64_of, inR_of, room_of, tmod_of, cond_true, cond_false, Bool.and_self, Bool.and_true, Bool.true_and, Bool.and_false, Bool.false_and, Bool.not_true, Bool.not_false, Option.bind_some, List.length_cons, List.length_nil, Nat.zero_add]
  · simp (disch := omega) only [dpos, dneg, w64_of, inR_of, room_of, tmod_of, cond_true, cond_false, Bool.and_self, Bool.and_true, Bool.true_and, Bool.and_false, Bool.false_and, Bool.not_true, Bool.not_false, Option.bind_some, List.length_cons, List.length_nil, Nat.zero_add]
def kseed (a b s : List UInt8) : List UInt8 × Int := if nok a b = true ∧ s.length ≠ 0 then (hmac (a ++ b) s, 0) else ([], 13)
def krekey (d a b s : List UInt8) : List UInt8 × Int := if nok a b = true ∧ s.length ≠ 0 then (hmac d (s ++ a ++ b), 0) else ([], 13)
section
variable (N : Nat) {a b s d : List UInt8} (ha : a.length ≤ 4398046511104) (hb : b.length ≤ 4398046511104) (hs : s.length ≤ 4398046511104) (hd : d.length ≤ 4398046511104) (hN : 4611686018427387904 ≤ N)
include ha hb hs hN
theorem kseed_ok : keys_Seed N a b s = some (((kseed a b s).2, ()), ((kseed a b s).1, ())) := by
  unfold keys_Seed keys_Seed_1 kseed
  have l : (a ++ b).length ≤ 17592186044416 := by rw [List.length_append]; omega
  rw [nonces_ok N a b (by omega) (by omega) hN]
  cases nok a b
  · simp only [dpos, dneg, w64_of, inR_of, room_of, tmod_of, cond_true, cond_false, Bool.and_self, Bool.and_true, Bool.true_and, Bool.and_false, Bool.false_and, Bool.not_true, Bool.not_false, Option.bind_some, List.length_cons, List.length_nil, Nat.zero_add, Bool.false_eq_true, false_and, if_false]
  · by_cases h : s.length = 0
    · simp (disch := omega) only [dpos, dneg, w64_of, inR_of, room_of, tmod_of, cond_true, cond_false, Bool.and_self, Bool.and_true, Bool.true_and, Bool.and_false, Bool.false_and, Bool.not_true, Bool.not_false, Option.bind_some, List.length_cons, List.length_nil, Nat.zero_add, h, ne_eq, not_true_eq_false, and_false, if_false]
    · simp (disch := omega) only [dpos, dneg, w64_of, inR_of, room_of, tmod_of, cond_true, cond_false, Bool.and_self, Bool.and_true, Bool.true_and, Bool.and_false, Bool.false_and, Bool.not_true, Bool.not_false, Option.bind_some, List.length_cons, List.length_nil, Nat.zero_add, h, ne_eq, not_false_eq_true, and_self, if_true, kjoin2, prf_hmac]
theorem rseed_ok : ref16_Seed N a b s = some (((kseed a b s).2, ()), ((kseed a b s).1, ())) := by
  unfold ref16_Seed ref16_Seed_1 kseed
  have l : (a ++ b).length ≤ 17592186044416 := by rw [List.length_append]; omega
  rw [rnonces_ok]
  cases nok a b
  · simp only [dpos, dneg, w64_of, inR_of, room_of, tmod_of, cond_true, cond_false, Bool.and_self, Bool.and_true, Bool.true_and, Bool.and_false, Bool.false_and, Bool.not_true, Bool.not_false, Option.bind_some, List.length_cons, List.length_nil, Nat.zero_add, Bool.false_eq_true, false_and, if_false]
  · by_cases h : s.length = 0
    · simp (disch := omega) only [dpos, dneg, w64_of, inR_of, room_of, tmod_of, cond_true, cond_false, Bool.and_self, Bool.and_true, Bool.true_and, Bool.and_false, Bool.false_and, Bool.not_true, Bool.not_false, Option.bind_some, List.length_cons, List.length_nil, Nat.zero_add, h, ne_eq, not_true_eq_false, and_false, if_false]
    · simp (disch := omega) only [dpos, dneg, w64_of, inR_of, room_of, tmod_of, cond_true, cond_false, Bool.and_self, Bool.and_true, Bool.true_and, Bool.and_false, Bool.false_and, Bool.not_true, Bool.not_false, Option.bind_some, List.length_cons, List.length_nil, Nat.zero_add, h, ne_eq, not_false_eq_true, and_self, if_true, join2, ref_hmac]
include hd
theorem krekey_ok : keys_Rekey N d a b s = some (((krekey d a b s).2, ()), ((krekey d a b s).1, ())) := by
  unfold keys_Rekey keys_Rekey_1 krekey
  have l : (s ++ a ++ b).length ≤ 17592186044416 := by rw [List.length_append, List.length_append]; omega
  rw [nonces_ok N a b (by omega) (by omega) hN]
  cases nok a b
  · simp only [dpos, dneg, w64_of, inR_of, room_of, tmod_of, cond_true, cond_false, Bool.and_self, Bool.and_true, Bool.true_and, Bool.and_false, Bool.false_and, Bool.not_true, Bool.not_false, Option.bind_some, List.length_cons, List.length_nil, Nat.zero_add, Bool.false_eq_true, false_and, if_false]
  · by_cases h : s.length = 0
    · simp (disch := omega) only [dpos, dneg, w64_of, inR_of, room_of, tmod_of, cond_true, cond_false, Bool.and_self, Bool.and_true, Bool.true_and, Bool.and_false, Bool.false_and, Bool.not_true, Bool.not_false, Option.bind_some, List.length_cons, List.length_nil, Nat.zero_add, h, ne_eq, not_true_eq_false, and_false, if_false]
    · simp (disch := omega) only [dpos, dneg, w64_of, inR_of, room_of, tmod_of, cond_true, cond_false, Bool.and_self, Bool.and_true, Bool.true_and, Bool.and_false, Bool.false_and, Bool.not_true, Bool.not_false, Option.bind_some, List.length_cons, List.length_nil, Nat.zero_add, h, ne_eq, not_false_eq_true, and_self, if_true, kjoin3, prf_hmac]
theorem rrekey_ok : ref16_Rekey N d a b s = some (((krekey d a b s).2, ()), ((krekey d a b s).1, ())) := by
  unfold ref16_Rekey ref16_Rekey_1 krekey
  have l : (s ++ a ++ b).length ≤ 17592186044416 := by rw [List.length_append, List.length_append]; omega
  rw [rnonces_ok]
  cases nok a b
  · simp only [dpos, dneg, w64_of, inR_of, room_of, tmod_of, cond_true, cond_false, Bool.and_self, Bool.and_true, Bool.true_and, Bool.and_false, Bool.false_and, Bool.not_true, Bool.not_false, Option.bind_some, List.length_cons, List.length_nil, Nat.zero_add, Bool.false_eq_true, false_and, if_false]
  · by_cases h : s.length = 0
    · simp (disch := omega) only [dpos, dneg, w64_of, inR_of, room_of, tmod_of, cond_true, cond_false, Bool.and_self, Bool.and_true, Bool.true_and, Bool.and_false, Bool.false_and, Bool.not_true, Bool.not_false, Option.bind_some, List.length_cons, List.length_nil, Nat.zero_add, h, ne_eq, not_true_eq_false, and_false, if_false]
    · simp (disch := omega) only [dpos, dneg, w64_of, inR_of, room_of, tmod_of, cond_true, cond_false, Bool.and_self, Bool.and_true, Bool.true_and, Bool.and_false, Bool.false_and, Bool.not_true, Bool.not_false, Option.bind_some, List.length_cons, List.length_nil, Nat.zero_add, h, ne_eq, not_false_eq_true, and_self, if_true, join3, ref_hmac]
end
/-- A piece. -/
def pc (x : List UInt8) (o n : Nat) : List UInt8 := (x.drop o).take n
theorem pc_len {x : List UInt8} {o n : Nat} (h : o + n ≤ x.length) : (pc x o n).length = n := by simp [pc]; omega
theorem spl_pc {x : List UInt8} {o : Nat} {n : Int} {ns : List Int} (h0 : 0 ≤ n) (h : (o : Int) + n ≤ (x.length : Int)) : spl (x.drop o) (n :: ns) = (spl (x.drop (o + n.toNat)) ns).map (pc x o n.toNat :: ·) := by
  rw [spl_cons, if_neg (by rw [List.length_drop]; omega), List.drop_drop]; rfl
theorem spl6 {x : List UInt8} (h : x.length = 172) : spl x [32, 36, 36, 32, 32, 4] = some [pc x 0 32, pc x 32 36, pc x 68 36, pc x 104 32, pc x 136 32, pc x 168 4] := by
  rw [show x = x.drop 0 from rfl, spl_pc (x := x) (o := 0) (by omega) (by omega), spl_pc (x := x) (by omega) (by omega), spl_pc (x := x) (by omega) (by omega), spl_pc (x := x) (by omega) (by omega), spl_pc (x := x) (by omega) (by omega), spl_pc (x := x) (by omega) (by omega)]
  rfl
theorem spl5 {x : List UInt8} (h : x.length = 172) : spl x [32, 36, 36, 32, 32] = some [pc x 0 32, pc x 32 36, pc x 68 36, pc x 104 32, pc x 136 32] := by
  rw [show x = x.drop 0 from rfl, spl_pc (x := x) (o := 0) (by omega) (by omega), spl_pc (x := x) (by omega) (by omega), spl_pc (x := x) (by omega) (by omega), spl_pc (x := x) (by omega) (by omega), spl_pc (x := x) (by omega) (by omega)]
  rfl
theorem spl2 {x : List UInt8} (h : x.length = 72) : spl x [36, 36] = some [pc x 0 36, pc x 36 36] := by
  rw [show x = x.drop 0 from rfl, spl_pc (x := x) (o := 0) (by omega) (by omega), spl_pc (x := x) (by omega) (by omega)]
  rfl
def dkeys (s a b : List UInt8) (i r : UInt64) : List UInt8 × List UInt8 × List UInt8 × List UInt8 × List UInt8 × Unit :=
  let x := plus s (a ++ b ++ (be i 8 ++ be r 8)) 172
  (pc x 0 32, pc x 32 36, pc x 68 36, pc x 104 32, pc x 136 32, ())
def kderive (s a b : List UInt8) (i r : UInt64) : (List UInt8 × List UInt8 × List UInt8 × List UInt8 × List UInt8 × Unit) × Int :=
  if nok a b = true then (dkeys s a b i r, 0) else (([], [], [], [], [], ()), 13)
theorem kderive_sum (M : Nat) (s a b : List UInt8) (i r : UInt64) (t : List UInt8 × List UInt8 × List UInt8 × List UInt8 × List UInt8 × Unit) :
    keys_Derive_1 (M + 9) s a b i r 0 g_keys_sizes (g_keys_sizes.length : Int) 0 t = keys_Derive_3 (M + 9) s a b i r 172 t := by kernel_rfl
theorem sizes_eq : g_keys_sizes = [32, 36, 36, 32, 32, 4] := rfl
theorem kderive_ok (N : Nat) {s a b : List UInt8} (i r : UInt64) (hs : s.length ≤ 1000) (ha : a.length ≤ 1000) (hb : b.length ≤ 1000) (hN : 4611686018427387904 ≤ N) :
    keys_Derive N s a b i r = some (((kderive s a b i r).1, (kderive s a b i r).2, ()), ()) := by
  unfold keys_Derive kderive
  rw [nonces_ok N a b (by omega) (by omega) hN]
  cases nok a b
  · simp only [dpos, dneg, w64_of, inR_of, room_of, tmod_of, cond_true, cond_false, Bool.and_self, Bool.and_true, Bool.true_and, Bool.and_false, Bool.false_and, Bool.not_true, Bool.not_false, Option.bind_some, List.length_cons, List.length_nil, Nat.zero_add, Bool.false_eq_true, if_false]
  · simp only [dpos, dneg, w64_of, inR_of, room_of, tmod_of, cond_true, cond_false, Bool.and_self, Bool.and_true, Bool.true_and, Bool.and_false, Bool.false_and, Bool.not_true, Bool.not_false, Option.bind_some, List.length_cons, List.length_nil, Nat.zero_add, if_true]
    obtain ⟨M, hM⟩ := Nat.exists_eq_add_of_le' (show 9 ≤ N by omega)
    have : ∀ t, keys_Derive_1 N s a b i r 0 g_keys_sizes (g_keys_sizes.length : Int) 0 t = keys_Derive_3 N s a b i r 172 t := by intro t; rw [hM]; exact kderive_sum M s a b i r t
    rw [this]
    unfold keys_Derive_3
    have l1 := be_len i 8
    have l2 := be_len r 8
    have l3 : (be i 8 ++ be r 8).length = 16 := by rw [List.length_append]; omega
    have l4 : (a ++ b ++ (be i 8 ++ be r 8)).length ≤ 3000 := by rw [List.length_append, List.length_append]; omega
    have w1 : wire_Put N i 8 [] = some ((), (be i 8, ())) := by rw [wire_put N (by omega) (by omega) (by simp) (by omega)]; rfl
    have w2 : wire_Put N r 8 (be i 8) = some ((), (be i 8 ++ be r 8, ())) := by rw [wire_put N (by omega) (by omega) (by omega) (by omega)]; rfl
    have p1 : prf_Plus N s (a ++ b ++ (be i 8 ++ be r 8)) 172 = some ((plus s (a ++ b ++ (be i 8 ++ be r 8)) 172, 0, ()), ()) := prf_plus N (by omega) (by omega) (by omega) (by omega) hN
    have l5 := plus_len s (a ++ b ++ (be i 8 ++ be r 8)) 172
    have p2 : prf_Split N (plus s (a ++ b ++ (be i 8 ++ be r 8)) 172) g_keys_sizes = some (splR (some [pc (plus s (a ++ b ++ (be i 8 ++ be r 8)) 172) 0 32, pc (plus s (a ++ b ++ (be i 8 ++ be r 8)) 172) 32 36, pc (plus s (a ++ b ++ (be i 8 ++ be r 8)) 172) 68 36, pc (plus s (a ++ b ++ (be i 8 ++ be r 8)) 172) 104 32, pc (plus s (a ++ b ++ (be i 8 ++ be r 8)) 172) 136 32, pc (plus s (a ++ b ++ (be i 8 ++ be r 8)) 172) 168 4])) := by
      rw [prf_split N (by omega) (by rw [sizes_eq]; decide) hN, sizes_eq, spl6 l5]
    simp (disch := omega) only [dpos, dneg, w64_of, inR_of, room_of, tmod_of, cond_true, cond_false, Bool.and_self, Bool.and_true, Bool.true_and, Bool.and_false, Bool.false_and, Bool.not_true, Bool.not_false, Option.bind_some, List.length_cons, List.length_nil, Nat.zero_add, w1, w2, kjoin3, p1, p2, splR]
    rfl
theorem rderive_ok (N : Nat) {s a b : List UInt8} (i r : UInt64) (hs : s.length ≤ 1000) (ha : a.length ≤ 1000) (hb : b.length ≤ 1000) (hN : 4611686018427387904 ≤ N) :
    ref16_Derive N s a b i r = some (((kderive s a b i r).1, (kderive s a b i r).2, ()), ()) := by
  unfold ref16_Derive kderive
  rw [rnonces_ok]
  cases nok a b
  · simp only [dpos, dneg, w64_of, inR_of, room_of, tmod_of, cond_true, cond_false, Bool.and_self, Bool.and_true, Bool.true_and, Bool.and_false, Bool.false_and, Bool.not_true, Bool.not_false, Option.bind_some, List.length_cons, List.length_nil, Nat.zero_add, Bool.false_eq_true, if_false]
  · simp only [dpos, dneg, w64_of, inR_of, room_of, tmod_of, cond_true, cond_false, Bool.and_self, Bool.and_true, Bool.true_and, Bool.and_false, Bool.false_and, Bool.not_true, Bool.not_false, Option.bind_some, List.length_cons, List.length_nil, Nat.zero_add, if_true]
    have l1 := be_len i 8
    have l2 := be_len r 8
    have l0 : (a ++ b).length ≤ 2000 := by rw [List.length_append]; omega
    have l0' : (a ++ b ++ be i 8).length ≤ 2100 := by rw [List.length_append]; omega
    have l4 : (a ++ b ++ (be i 8 ++ be r 8)).length ≤ 3000 := by rw [List.length_append, List.length_append, List.length_append]; omega
    have w1 : ref01_Put N (a ++ b) i 8 = some ((), (a ++ b ++ be i 8, ())) := by rw [ref_put N (by omega) (by omega) (by omega) (by omega)]; rfl
    have w2 : ref01_Put N (a ++ b ++ be i 8) r 8 = some ((), (a ++ b ++ (be i 8 ++ be r 8), ())) := by rw [ref_put N (by omega) (by omega) (by omega) (by omega), List.append_assoc]; rfl
    have p1 : ref09_Plus N s (a ++ b ++ (be i 8 ++ be r 8)) 172 = some ((plus s (a ++ b ++ (be i 8 ++ be r 8)) 172, 0, ()), ()) := ref_plus N (by omega) (by omega) (by omega) (by omega) hN
    have l5 := plus_len s (a ++ b ++ (be i 8 ++ be r 8)) 172
    have p2 : ref09_Split N (plus s (a ++ b ++ (be i 8 ++ be r 8)) 172) [32, 36, 36, 32, 32] = some (splR (some [pc (plus s (a ++ b ++ (be i 8 ++ be r 8)) 172) 0 32, pc (plus s (a ++ b ++ (be i 8 ++ be r 8)) 172) 32 36, pc (plus s (a ++ b ++ (be i 8 ++ be r 8)) 172) 68 36, pc (plus s (a ++ b ++ (be i 8 ++ be r 8)) 172) 104 32, pc (plus s (a ++ b ++ (be i 8 ++ be r 8)) 172) 136 32])) := by
      rw [ref_split N (by omega) (by decide) hN, spl5 l5]
    simp (disch := omega) only [dpos, dneg, w64_of, inR_of, room_of, tmod_of, cond_true, cond_false, Bool.and_self, Bool.and_true, Bool.true_and, Bool.and_false, Bool.false_and, Bool.not_true, Bool.not_false, Option.bind_some, List.length_cons, List.length_nil, Nat.zero_add, w1, w2, join2, p1, p2, splR]
    rfl
def kchild (d a b s : List UInt8) : (List UInt8 × List UInt8 × Unit) × Int :=
  if nok a b = true then ((pc (plus d (s ++ a ++ b) 72) 0 36, pc (plus d (s ++ a ++ b) 72) 36 36, ()), 0) else (([], [], ()), 13)
theorem kchild_ok (N : Nat) {d a b s : List UInt8} (hd : d.length ≤ 1000) (hs : s.length ≤ 1000) (ha : a.length ≤ 1000) (hb : b.length ≤ 1000) (hN : 4611686018427387904 ≤ N) :
    keys_Child N d a b s = some (((kchild d a b s).1, (kchild d a b s).2, ()), ()) := by
  unfold keys_Child kchild
  rw [nonces_ok N a b (by omega) (by omega) hN]
  cases nok a b
  · simp only [dpos, dneg, w64_of, inR_of, room_of, tmod_of, cond_true, cond_false, Bool.and_self, Bool.and_true, Bool.true_and, Bool.and_false, Bool.false_and, Bool.not_true, Bool.not_false, Option.bind_some, List.length_cons, List.length_nil, Nat.zero_add, Bool.false_eq_true, if_false]
  · simp only [dpos, dneg, w64_of, inR_of, room_of, tmod_of, cond_true, cond_false, Bool.and_self, Bool.and_true, Bool.true_and, Bool.and_false, Bool.false_and, Bool.not_true, Bool.not_false, Option.bind_some, List.length_cons, List.length_nil, Nat.zero_add, if_true]
    have l4 : (s ++ a ++ b).length ≤ 3000 := by rw [List.length_append, List.length_append]; omega
    have p1 : prf_Plus N d (s ++ a ++ b) 72 = some ((plus d (s ++ a ++ b) 72, 0, ()), ()) := prf_plus N (by omega) (by omega) (by omega) (by omega) hN
    have l5 := plus_len d (s ++ a ++ b) 72
    have p2 : prf_Split N (plus d (s ++ a ++ b) 72) [36, 36] = some (splR (some [pc (plus d (s ++ a ++ b) 72) 0 36, pc (plus d (s ++ a ++ b) 72) 36 36])) := by
      rw [prf_split N (by omega) (by decide) hN, spl2 l5]
    simp (disch := omega) only [dpos, dneg, w64_of, inR_of, room_of, tmod_of, cond_true, cond_false, Bool.and_self, Bool.and_true, Bool.true_and, Bool.and_false, Bool.false_and, Bool.not_true, Bool.not_false, Option.bind_some, List.length_cons, List.length_nil, Nat.zero_add, kjoin3, p1, p2, splR]
    rfl
theorem rchild_ok (N : Nat) {d a b s : List UInt8} (hd : d.length ≤ 1000) (hs : s.length ≤ 1000) (ha : a.length ≤ 1000) (hb : b.length ≤ 1000) (hN : 4611686018427387904 ≤ N) :
    ref16_Child N d a b s = some (((kchild d a b s).1, (kchild d a b s).2, ()), ()) := by
  unfold ref16_Child kchild
  rw [rnonces_ok]
  cases nok a b
  · simp only [dpos, dneg, w64_of, inR_of, room_of, tmod_of, cond_true, cond_false, Bool.and_self, Bool.and_true, Bool.true_and, Bool.and_false, Bool.false_and, Bool.not_true, Bool.not_false, Option.bind_some, List.length_cons, List.length_nil, Nat.zero_add, Bool.false_eq_true, if_false]
  · simp only [dpos, dneg, w64_of, inR_of, room_of, tmod_of, cond_true, cond_false, Bool.and_self, Bool.and_true, Bool.true_and, Bool.and_false, Bool.false_and, Bool.not_true, Bool.not_false, Option.bind_some, List.length_cons, List.length_nil, Nat.zero_add, if_true]
    have l4 : (s ++ a ++ b).length ≤ 3000 := by rw [List.length_append, List.length_append]; omega
    have p1 : ref09_Plus N d (s ++ a ++ b) 72 = some ((plus d (s ++ a ++ b) 72, 0, ()), ()) := ref_plus N (by omega) (by omega) (by omega) (by omega) hN
    have l5 := plus_len d (s ++ a ++ b) 72
    have e1 : cut (plus d (s ++ a ++ b) 72) 0 36 = pc (plus d (s ++ a ++ b) 72) 0 36 := by simp [cut, pc]
    have e2 : cut (plus d (s ++ a ++ b) 72) 36 (plus d (s ++ a ++ b) 72).length = pc (plus d (s ++ a ++ b) 72) 36 36 := by
      rw [l5]; exact cut_at _ 36 36
    simp (disch := omega) only [dpos, dneg, w64_of, inR_of, room_of, tmod_of, cond_true, cond_false, Bool.and_self, Bool.and_true, Bool.true_and, Bool.and_false, Bool.false_and, Bool.not_true, Bool.not_false, Option.bind_some, List.length_cons, List.length_nil, Nat.zero_add, join3, p1, e1, e2]
theorem same16 (N : Nat) {k : List UInt8 × List UInt8 × List UInt8 × List UInt8 × List UInt8 × Unit} (h : k.1.length ≤ 100 ∧ k.2.1.length ≤ 100 ∧ k.2.2.1.length ≤ 100 ∧ k.2.2.2.1.length ≤ 100 ∧ k.2.2.2.2.1.length ≤ 100) (hN : 4611686018427387904 ≤ N) : ref16_Same N k k = some ((true, ()), ()) := by
  obtain ⟨h1, h2, h3, h4, h5⟩ := h
  unfold ref16_Same
  simp (disch := omega) only [dpos, dneg, w64_of, inR_of, room_of, tmod_of, cond_true, cond_false, Bool.and_self, Bool.and_true, Bool.true_and, Bool.and_false, Bool.false_and, Bool.not_true, Bool.not_false, Option.bind_some, List.length_cons, List.length_nil, Nat.zero_add, equal_ok, decide_true]
theorem kderive_len (s a b : List UInt8) (i r : UInt64) : (kderive s a b i r).1.1.length ≤ 100 ∧ (kderive s a b i r).1.2.1.length ≤ 100 ∧ (kderive s a b i r).1.2.2.1.length ≤ 100 ∧ (kderive s a b i r).1.2.2.2.1.length ≤ 100 ∧ (kderive s a b i r).1.2.2.2.2.1.length ≤ 100 := by
  unfold kderive
  split
  · simp [dkeys, pc]; omega
  · simp
theorem kchild_len (d a b s : List UInt8) : (kchild d a b s).1.1.length ≤ 100 ∧ (kchild d a b s).1.2.1.length ≤ 100 := by
  unfold kchild
  split
  · simp [pc]; omega
  · simp
theorem kseed_len (a b s : List UInt8) : (kseed a b s).1.length ≤ 100 := by
  unfold kseed; split
  · simp only [hmac_len]; decide
  · simp
theorem krekey_len (d a b s : List UInt8) : (krekey d a b s).1.length ≤ 100 := by
  unfold krekey; split
  · simp only [hmac_len]; decide
  · simp
theorem nonce_ok (N : Nat) {c : List UInt8 × (Int × Unit)} (hc : COk c) (hN : 4611686018427387904 ≤ N) : ∃ c' out, make_Codes_Nonce N c = some ((), (c', out, ())) ∧ out.length ≤ 300 ∧ COk c' := by
  unfold make_Codes_Nonce
  obtain ⟨v, c1, e1, v0, v1, k1⟩ := next_ok N (n := 12) hc (by omega)
  rw [e1]
  simp only [Option.bind_some]
  by_cases h10 : v = 10
  · obtain ⟨v', c2, e2, w0, w1, k2⟩ := next_ok N (n := 17) k1 (by omega)
    obtain ⟨c3, out, e3, l3, k3⟩ := bytes_ok (N := N) k2 w0 (by omega) (by omega)
    simp (disch := omega) only [dpos, dneg, w64_of, inR_of, room_of, tmod_of, cond_true, cond_false, Bool.and_self, Bool.and_true, Bool.true_and, Bool.and_false, Bool.false_and, Bool.not_true, Bool.not_false, Option.bind_some, List.length_cons, List.length_nil, Nat.zero_add, e2, e3]
    exact ⟨_, _, rfl, by omega, k3⟩
  · by_cases h11 : v = 11
    · obtain ⟨c3, out, e3, l3, k3⟩ := bytes_ok (N := N) (n := 20) k1 (by omega) (by omega) (by omega)
      obtain ⟨v', c2, e2, w0, w1, k2⟩ := next_ok N (n := 3) k3 (by omega)
      simp (disch := omega) only [dpos, dneg, w64_of, inR_of, room_of, tmod_of, cond_true, cond_false, Bool.and_self, Bool.and_true, Bool.true_and, Bool.and_false, Bool.false_and, Bool.not_true, Bool.not_false, Option.bind_some, List.length_cons, List.length_nil, Nat.zero_add, e2, e3, List.length_replicate]
      exact ⟨_, _, rfl, by simp; omega, k2⟩
    · obtain ⟨v', c2, e2, w0, w1, k2⟩ := next_ok N (n := 20) k1 (by omega)
      obtain ⟨c3, out, e3, l3, k3⟩ := bytes_ok (N := N) (n := 16 + v') k2 (by omega) (by omega) (by omega)
      simp (disch := omega) only [dpos, dneg, w64_of, inR_of, room_of, tmod_of, cond_true, cond_false, Bool.and_self, Bool.and_true, Bool.true_and, Bool.and_false, Bool.false_and, Bool.not_true, Bool.not_false, Option.bind_some, List.length_cons, List.length_nil, Nat.zero_add, e2, e3]
      exact ⟨_, _, rfl, by omega, k3⟩
theorem derive_ (codes : List UInt8) (hc : codes.length ≤ 9223372036854775807) (s : List UInt8) (hs : s.length ≤ 9223372036854775807) (d : List UInt8) (hd : d.length ≤ 9223372036854775807) (i r : UInt64) :
    law16_KeysDerive 18446744073709551616 codes s d i r = some ((true, ()), ()) := by
  unfold law16_KeysDerive
  rw [awake16]
  generalize hN0 : 18446744073709551616 = N
  have hN : 4611686018427387904 ≤ N := by omega
  clear hN0
  simp only [dpos, dneg, w64_of, inR_of, room_of, tmod_of, cond_true, cond_false, Bool.and_self, Bool.and_true, Bool.true_and, Bool.and_false, Bool.false_and, Bool.not_true, Bool.not_false, Option.bind_some, List.length_cons, List.length_nil, Nat.zero_add]
  unfold law16_KeysDerive_1
  by_cases c1 : (300 : Int) < (s.length : Int)
  · simp (disch := omega) only [dpos, dneg, w64_of, inR_of, room_of, tmod_of, cond_true, cond_false, Bool.and_self, Bool.and_true, Bool.true_and, Bool.and_false, Bool.false_and, Bool.not_true, Bool.not_false, Option.bind_some, List.length_cons, List.length_nil, Nat.zero_add]
  · by_cases c2 : (300 : Int) < (d.length : Int)
    · simp (disch := omega) only [dpos, dneg, w64_of, inR_of, room_of, tmod_of, cond_true, cond_false, Bool.and_self, Bool.and_true, Bool.true_and, Bool.and_false, Bool.false_and, Bool.not_true, Bool.not_false, Option.bind_some, List.length_cons, List.length_nil, Nat.zero_add]
    · obtain ⟨c0, e0, k0⟩ := new_ok N codes (m := 160) (by omega) (by omega)
      obtain ⟨c1', ni, e1, l1, k1⟩ := nonce_ok N k0 hN
      obtain ⟨c2', nr, e2, l2, k2⟩ := nonce_ok N k1 hN
      have q1 := kseed_len ni nr s
      have q2 := krekey_len d ni nr s
      have q3 := kderive_len d ni nr i r
      have q4 := (kchild_len d ni nr s).1
      have q5 := (kchild_len d ni nr s).2
      simp (disch := omega) only [dpos, dneg, w64_of, inR_of, room_of, tmod_of, cond_true, cond_false, Bool.and_self, Bool.and_true, Bool.true_and, Bool.and_false, Bool.false_and, Bool.not_true, Bool.not_false, Option.bind_some, List.length_cons, List.length_nil, Nat.zero_add, e0, e1, e2, kseed_ok, rseed_ok, equal_ok, decide_true]
      unfold law16_KeysDerive_2
      simp (disch := omega) only [dpos, dneg, w64_of, inR_of, room_of, tmod_of, cond_true, cond_false, Bool.and_self, Bool.and_true, Bool.true_and, Bool.and_false, Bool.false_and, Bool.not_true, Bool.not_false, Option.bind_some, List.length_cons, List.length_nil, Nat.zero_add, krekey_ok, rrekey_ok, equal_ok, decide_true]
      unfold law16_KeysDerive_3
      simp (disch := omega) only [dpos, dneg, w64_of, inR_of, room_of, tmod_of, cond_true, cond_false, Bool.and_self, Bool.and_true, Bool.true_and, Bool.and_false, Bool.false_and, Bool.not_true, Bool.not_false, Option.bind_some, List.length_cons, List.length_nil, Nat.zero_add, kderive_ok, rderive_ok, same16 N q3 hN, decide_true]
      unfold law16_KeysDerive_4
      simp (disch := omega) only [dpos, dneg, w64_of, inR_of, room_of, tmod_of, cond_true, cond_false, Bool.and_self, Bool.and_true, Bool.true_and, Bool.and_false, Bool.false_and, Bool.not_true, Bool.not_false, Option.bind_some, List.length_cons, List.length_nil, Nat.zero_add, kchild_ok, rchild_ok, equal_ok, decide_true]
end
end Go.Proofs.YtlamdneheilahaaDoor.Pl
