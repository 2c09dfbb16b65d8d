/- Plain: a block of ChaCha20, the program's and the reference's: one function. -/
import Derived.Test.YtlamdneheilahaaDoorAeQBase
import Derived.Test.YtlamdneheilahaaDoorFnsAeadReturnsA
set_option linter.unusedVariables false
set_option linter.unusedSimpArgs false
namespace Go.Proofs.YtlamdneheilahaaDoor.Pl
open Go
noncomputable section
def rl (x : UInt32) (n : Nat) : UInt32 := shl32 x n ||| shr32 x (32 - n)
def q3 (a b d : UInt32) : UInt32 := rl (d ^^^ (a + b)) 16
def q6 (a b c d : UInt32) : UInt32 := rl (b ^^^ (c + q3 a b d)) 12
def q9 (a b c d : UInt32) : UInt32 := rl (q3 a b d ^^^ ((a + b) + q6 a b c d)) 8
def q12 (a b c d : UInt32) : UInt32 := rl (q6 a b c d ^^^ ((c + q3 a b d) + q9 a b c d)) 7
theorem quarter_ok (N : Nat) (a b c d : UInt32) : chacha_Quarter N a b c d = some (((a + b) + q6 a b c d, q12 a b c d, (c + q3 a b d) + q9 a b c d, q9 a b c d, ()), ()) := by kernel_rfl
theorem rquarter_ok (N : Nat) (a b c d : UInt32) : ref10_Quarter N a b c d = some (((a + b) + q6 a b c d, q12 a b c d, (c + q3 a b d) + q9 a b c d, q9 a b c d, ()), ()) := by kernel_rfl
/-- Four words of a state are mixed. -/
def mixl (s : List UInt32) (i j k l : Nat) : List UInt32 :=
  (((s.set i ((s.getD i 0 + s.getD j 0) + q6 (s.getD i 0) (s.getD j 0) (s.getD k 0) (s.getD l 0))).set j (q12 (s.getD i 0) (s.getD j 0) (s.getD k 0) (s.getD l 0))).set k ((s.getD k 0 + q3 (s.getD i 0) (s.getD j 0) (s.getD l 0)) + q9 (s.getD i 0) (s.getD j 0) (s.getD k 0) (s.getD l 0))).set l
    (q9 (s.getD i 0) (s.getD j 0) (s.getD k 0) (s.getD l 0))
theorem mixl_len (s : List UInt32) (i j k l : Nat) : (mixl s i j k l).length = s.length := by simp [mixl]
def d1 (s : List UInt32) : List UInt32 := mixl (mixl (mixl (mixl s 0 4 8 12) 1 5 9 13) 2 6 10 14) 3 7 11 15
def d2 (s : List UInt32) : List UInt32 := mixl (mixl (mixl (mixl s 0 5 10 15) 1 6 11 12) 2 7 8 13) 3 4 9 14
/-- A double round. -/
def dr (s : List UInt32) : List UInt32 := d2 (d1 s)
theorem dr_len (s : List UInt32) : (dr s).length = s.length := by simp [dr, d1, d2, mixl_len]
theorem rmix_ok (N : Nat) {s : List UInt32} {i j k l : Int} (hi : 0 ≤ i) (hi' : i < 16) (hj : 0 ≤ j) (hj' : j < 16) (hk : 0 ≤ k) (hk' : k < 16) (hl : 0 ≤ l) (hl' : l < 16) : ref10_mix N s i j k l = some ((mixl s i.toNat j.toNat k.toNat l.toNat, ()), ()) := by
  unfold ref10_mix
  simp (disch := omega) only [dpos, dneg, w64_of, inR_of, room_of, tmod_of, cond_true, cond_false, Bool.and_self, Bool.and_true, Bool.true_and, Bool.and_false, Bool.false_and, Bool.not_true, Bool.not_false, Option.bind_some, List.length_cons, List.length_nil, Nat.zero_add, rquarter_ok, mixl]
theorem loopK_go {S E R : Type} {step : S → Option (Lo S E R)} {J : E → Option R} {N M : Nat} {x x' : S} (hN : N = M + 1) (h : step x = some (.go x')) : loopK N step J x = loopK M step J x' := by
  rw [hN, loopK_succ, h]; rfl
theorem loopK_br {S E R : Type} {step : S → Option (Lo S E R)} {J : E → Option R} {N M : Nat} {x : S} {e : E} (hN : N = M + 1) (h : step x = some (.br e)) : loopK N step J x = J e := by
  rw [hN, loopK_succ, h]; rfl
theorem s7_ok (N : Nat) (t : Int) (f s : List UInt32) (i a b c d : Nat) (hi : i < 8) (hq : g_chacha_quarters.getD i (List.replicate 4 0) = [(a : Int), (b : Int), (c : Int), (d : Int)]) (ha : a < 16) (hb : b < 16) (hc : c < 16) (hd : d < 16) :
    chacha_Block_s7 N t g_chacha_quarters (i : Int) f s = some (.go ((t, g_chacha_quarters, (i : Int) + 1, ()), (f, mixl s a b c d, ()))) := by
  unfold chacha_Block_s7
  simp (disch := omega) only [dpos, dneg, w64_of, inR_of, room_of, tmod_of, cond_true, cond_false, Bool.and_self, Bool.and_true, Bool.true_and, Bool.and_false, Bool.false_and, Bool.not_true, Bool.not_false, Option.bind_some, List.length_cons, List.length_nil, Nat.zero_add, Int.toNat_natCast, hq, List.getD_cons_zero, List.getD_cons_succ, quarter_ok, mixl]
theorem double_ok (N : Nat) (hN : 4611686018427387904 ≤ N) (t : Int) (ht : 0 ≤ t) (ht' : t < 10) (f s : List UInt32) : chacha_Block_6 N t g_chacha_quarters 0 f s = some (.go ((t + 1, ()), (f, dr s, ()))) := by
  obtain ⟨M, hM⟩ : ∃ M, N = M + 8 + 1 := ⟨N - 9, by omega⟩
  have s0 : ∀ s, chacha_Block_s7 N t g_chacha_quarters 0 f s = some (.go ((t, g_chacha_quarters, 1, ()), (f, mixl s 0 4 8 12, ()))) := fun s => s7_ok N t f s 0 0 4 8 12 (by decide) (by kernel_rfl) (by decide) (by decide) (by decide) (by decide)
  have s1 : ∀ s, chacha_Block_s7 N t g_chacha_quarters 1 f s = some (.go ((t, g_chacha_quarters, 2, ()), (f, mixl s 1 5 9 13, ()))) := fun s => s7_ok N t f s 1 1 5 9 13 (by decide) (by kernel_rfl) (by decide) (by decide) (by decide) (by decide)
  have s2 : ∀ s, chacha_Block_s7 N t g_chacha_quarters 2 f s = some (.go ((t, g_chacha_quarters, 3, ()), (f, mixl s 2 6 10 14, ()))) := fun s => s7_ok N t f s 2 2 6 10 14 (by decide) (by kernel_rfl) (by decide) (by decide) (by decide) (by decide)
  have s3 : ∀ s, chacha_Block_s7 N t g_chacha_quarters 3 f s = some (.go ((t, g_chacha_quarters, 4, ()), (f, mixl s 3 7 11 15, ()))) := fun s => s7_ok N t f s 3 3 7 11 15 (by decide) (by kernel_rfl) (by decide) (by decide) (by decide) (by decide)
  have s4 : ∀ s, chacha_Block_s7 N t g_chacha_quarters 4 f s = some (.go ((t, g_chacha_quarters, 5, ()), (f, mixl s 0 5 10 15, ()))) := fun s => s7_ok N t f s 4 0 5 10 15 (by decide) (by kernel_rfl) (by decide) (by decide) (by decide) (by decide)
  have s5 : ∀ s, chacha_Block_s7 N t g_chacha_quarters 5 f s = some (.go ((t, g_chacha_quarters, 6, ()), (f, mixl s 1 6 11 12, ()))) := fun s => s7_ok N t f s 5 1 6 11 12 (by decide) (by kernel_rfl) (by decide) (by decide) (by decide) (by decide)
  have s6 : ∀ s, chacha_Block_s7 N t g_chacha_quarters 6 f s = some (.go ((t, g_chacha_quarters, 7, ()), (f, mixl s 2 7 8 13, ()))) := fun s => s7_ok N t f s 6 2 7 8 13 (by decide) (by kernel_rfl) (by decide) (by decide) (by decide) (by decide)
  have s7 : ∀ s, chacha_Block_s7 N t g_chacha_quarters 7 f s = some (.go ((t, g_chacha_quarters, 8, ()), (f, mixl s 3 4 9 14, ()))) := fun s => s7_ok N t f s 7 3 4 9 14 (by decide) (by kernel_rfl) (by decide) (by decide) (by decide) (by decide)
  have s8 : ∀ s, chacha_Block_s7 N t g_chacha_quarters 8 f s = some (.br ((t, ()), (f, s, ()))) := fun s => by
    unfold chacha_Block_s7
    simp (disch := omega) only [dpos, dneg, w64_of, inR_of, room_of, tmod_of, cond_true, cond_false, Bool.and_self, Bool.and_true, Bool.true_and, Bool.and_false, Bool.false_and, Bool.not_true, Bool.not_false, Option.bind_some, List.length_cons, List.length_nil, Nat.zero_add]
  unfold chacha_Block_6
  rw [loopK_go (M := M + 8) hM (s0 s), loopK_go (M := M + 7) rfl (s1 _), loopK_go (M := M + 6) rfl (s2 _), loopK_go (M := M + 5) rfl (s3 _), loopK_go (M := M + 4) rfl (s4 _), loopK_go (M := M + 3) rfl (s5 _), loopK_go (M := M + 2) rfl (s6 _), loopK_go (M := M + 1) rfl (s7 _), loopK_br (M := M) rfl (s8 _)]
  unfold chacha_Block_8 dr d2 d1
  simp (disch := omega) only [dpos, dneg, w64_of, inR_of, room_of, tmod_of, cond_true, cond_false, Bool.and_self, Bool.and_true, Bool.true_and, Bool.and_false, Bool.false_and, Bool.not_true, Bool.not_false, Option.bind_some, List.length_cons, List.length_nil, Nat.zero_add]
theorem r14_ok (N : Nat) (t : Int) (f s : List UInt32) (i : Nat) (hi : i < 4) : ref10_Block_s14 N t (i : Int) f s = some (.go ((t, (i : Int) + 1, ()), (f, mixl s i (4 + i) (8 + i) (12 + i), ()))) := by
  unfold ref10_Block_s14
  have e1 : ((4 : Int) + (i : Int)).toNat = 4 + i := by omega
  have e2 : ((8 : Int) + (i : Int)).toNat = 8 + i := by omega
  have e3 : ((12 : Int) + (i : Int)).toNat = 12 + i := by omega
  simp (disch := omega) only [dpos, dneg, w64_of, inR_of, room_of, tmod_of, cond_true, cond_false, Bool.and_self, Bool.and_true, Bool.true_and, Bool.and_false, Bool.false_and, Bool.not_true, Bool.not_false, Option.bind_some, List.length_cons, List.length_nil, Nat.zero_add, rmix_ok, Int.toNat_natCast, e1, e2, e3]
theorem r17_ok (N : Nat) (t : Int) (f s : List UInt32) (i : Nat) (hi : i < 4) : ref10_Block_s17 N t (i : Int) f s = some (.go ((t, (i : Int) + 1, ()), (f, mixl s i (4 + (i + 1) % 4) (8 + (i + 2) % 4) (12 + (i + 3) % 4), ()))) := by
  unfold ref10_Block_s17
  have e1 : ((4 : Int) + ((i : Int) + 1) % 4).toNat = 4 + (i + 1) % 4 := by omega
  have e2 : ((8 : Int) + ((i : Int) + 2) % 4).toNat = 8 + (i + 2) % 4 := by omega
  have e3 : ((12 : Int) + ((i : Int) + 3) % 4).toNat = 12 + (i + 3) % 4 := by omega
  simp (disch := omega) only [dpos, dneg, w64_of, inR_of, room_of, tmod_of, cond_true, cond_false, Bool.and_self, Bool.and_true, Bool.true_and, Bool.and_false, Bool.false_and, Bool.not_true, Bool.not_false, Option.bind_some, List.length_cons, List.length_nil, Nat.zero_add, rmix_ok, Int.toNat_natCast, e1, e2, e3]
theorem rdouble_ok (N : Nat) (hN : 4611686018427387904 ≤ N) (t : Int) (ht : 0 ≤ t) (ht' : t < 10) (f s : List UInt32) : ref10_Block_12 N t f s = some (.go ((t + 1, ()), (f, dr s, ()))) := by
  obtain ⟨M, hM⟩ : ∃ M, N = M + 4 + 1 := ⟨N - 5, by omega⟩
  have s0 : ∀ s, ref10_Block_s14 N t 0 f s = some (.go ((t, 1, ()), (f, mixl s 0 4 8 12, ()))) := fun s => r14_ok N t f s 0 (by decide)
  have s1 : ∀ s, ref10_Block_s14 N t 1 f s = some (.go ((t, 2, ()), (f, mixl s 1 5 9 13, ()))) := fun s => r14_ok N t f s 1 (by decide)
  have s2 : ∀ s, ref10_Block_s14 N t 2 f s = some (.go ((t, 3, ()), (f, mixl s 2 6 10 14, ()))) := fun s => r14_ok N t f s 2 (by decide)
  have s3 : ∀ s, ref10_Block_s14 N t 3 f s = some (.go ((t, 4, ()), (f, mixl s 3 7 11 15, ()))) := fun s => r14_ok N t f s 3 (by decide)
  have s4 : ∀ s, ref10_Block_s14 N t 4 f s = some (.br ((t, ()), (f, s, ()))) := fun s => by
    unfold ref10_Block_s14
    simp (disch := omega) only [dpos, dneg, w64_of, inR_of, room_of, tmod_of, cond_true, cond_false, Bool.and_self, Bool.and_true, Bool.true_and, Bool.and_false, Bool.false_and, Bool.not_true, Bool.not_false, Option.bind_some, List.length_cons, List.length_nil, Nat.zero_add]
  have u0 : ∀ s, ref10_Block_s17 N t 0 f s = some (.go ((t, 1, ()), (f, mixl s 0 5 10 15, ()))) := fun s => r17_ok N t f s 0 (by decide)
  have u1 : ∀ s, ref10_Block_s17 N t 1 f s = some (.go ((t, 2, ()), (f, mixl s 1 6 11 12, ()))) := fun s => r17_ok N t f s 1 (by decide)
  have u2 : ∀ s, ref10_Block_s17 N t 2 f s = some (.go ((t, 3, ()), (f, mixl s 2 7 8 13, ()))) := fun s => r17_ok N t f s 2 (by decide)
  have u3 : ∀ s, ref10_Block_s17 N t 3 f s = some (.go ((t, 4, ()), (f, mixl s 3 4 9 14, ()))) := fun s => r17_ok N t f s 3 (by decide)
  have u4 : ∀ s, ref10_Block_s17 N t 4 f s = some (.br ((t, ()), (f, s, ()))) := fun s => by
    unfold ref10_Block_s17
    simp (disch := omega) only [dpos, dneg, w64_of, inR_of, room_of, tmod_of, cond_true, cond_false, Bool.and_self, Bool.and_true, Bool.true_and, Bool.and_false, Bool.false_and, Bool.not_true, Bool.not_false, Option.bind_some, List.length_cons, List.length_nil, Nat.zero_add]
  unfold ref10_Block_12 ref10_Block_13
  rw [loopK_go (M := M + 4) hM (s0 s), loopK_go (M := M + 3) rfl (s1 _), loopK_go (M := M + 2) rfl (s2 _), loopK_go (M := M + 1) rfl (s3 _), loopK_br (M := M) rfl (s4 _)]
  unfold ref10_Block_15 ref10_Block_16
  rw [loopK_go (M := M + 4) hM (u0 _), loopK_go (M := M + 3) rfl (u1 _), loopK_go (M := M + 2) rfl (u2 _), loopK_go (M := M + 1) rfl (u3 _), loopK_br (M := M) rfl (u4 _)]
  unfold ref10_Block_18 dr d2 d1
  simp (disch := omega) only [dpos, dneg, w64_of, inR_of, room_of, tmod_of, cond_true, cond_false, Bool.and_self, Bool.and_true, Bool.true_and, Bool.and_false, Bool.false_and, Bool.not_true, Bool.not_false, Option.bind_some, List.length_cons, List.length_nil, Nat.zero_add]
def drs (f : List UInt32) : Nat → List UInt32
  | 0 => f
  | i + 1 => dr (drs f i)
theorem drs_len (f : List UInt32) (i : Nat) : (drs f i).length = f.length := by
  induction i with
  | zero => rfl
  | succ i ih => rw [drs, dr_len, ih]
/-- The bytes of a block. -/
def bout (f s : List UInt32) : List UInt8 := (List.range 16).flatMap fun i => let v := s.getD i 0 + f.getD i 0; [v.toUInt8, (shr32 v 8).toUInt8, (shr32 v 16).toUInt8, (shr32 v 24).toUInt8]
theorem bout_len (f s : List UInt32) : (bout f s).length = 64 := rfl
theorem bout_un (M : Nat) (s f : List UInt32) : chacha_Block_10 (M + 20) s 0 f [] = some ((true, ()), (bout f s, ())) := by kernel_rfl
theorem rbout_un (M : Nat) (s f : List UInt32) : ref10_Block_20 (M + 20) 0 f s [] = some ((true, ()), (bout f s, ())) := by kernel_rfl
theorem list12 {α : Type} {l : List α} (h : l.length = 12) : ∃ a b c d e f g i j k m n, l = [a, b, c, d, e, f, g, i, j, k, m, n] := by
  match l, h with
  | [a, b, c, d, e, f, g, i, j, k, m, n], _ => exact ⟨a, b, c, d, e, f, g, i, j, k, m, n, rfl⟩
theorem list16c {α : Type} {l : List α} (h : l.length = 16) : ∃ a b c d e f g i j k m n o p q r, l = [a, b, c, d, e, f, g, i, j, k, m, n, o, p, q, r] := by
  match l, h with
  | [a, b, c, d, e, f, g, i, j, k, m, n, o, p, q, r], _ => exact ⟨a, b, c, d, e, f, g, i, j, k, m, n, o, p, q, r, rfl⟩
def wd (l : List UInt8) (i : Nat) : UInt32 := (((l.getD (4 * i) 0).toUInt32 ||| shl32 (l.getD (4 * i + 1) 0).toUInt32 8) ||| shl32 (l.getD (4 * i + 2) 0).toUInt32 16) ||| shl32 (l.getD (4 * i + 3) 0).toUInt32 24
/-- The words at the beginning. -/
def stw (k : List UInt8) (c : UInt32) (n : List UInt8) : List UInt32 := [1634760805, 857760878, 2036477234, 1797285236, wd k 0, wd k 1, wd k 2, wd k 3, wd k 4, wd k 5, wd k 6, wd k 7, c, wd n 0, wd n 1, wd n 2]
theorem state_un (M : Nat) (c : UInt32) (k0 k1 k2 k3 k4 k5 k6 k7 k8 k9 k10 k11 k12 k13 k14 k15 k16 k17 k18 k19 k20 k21 k22 k23 k24 k25 k26 k27 k28 k29 k30 k31 n0 n1 n2 n3 n4 n5 n6 n7 n8 n9 n10 n11 : UInt8) :
    chacha_state (M + 20) [k0, k1, k2, k3, k4, k5, k6, k7, k8, k9, k10, k11, k12, k13, k14, k15, k16, k17, k18, k19, k20, k21, k22, k23, k24, k25, k26, k27, k28, k29, k30, k31] c [n0, n1, n2, n3, n4, n5, n6, n7, n8, n9, n10, n11] =
    some ((stw [k0, k1, k2, k3, k4, k5, k6, k7, k8, k9, k10, k11, k12, k13, k14, k15, k16, k17, k18, k19, k20, k21, k22, k23, k24, k25, k26, k27, k28, k29, k30, k31] c [n0, n1, n2, n3, n4, n5, n6, n7, n8, n9, n10, n11], true, ()), ()) := by kernel_rfl
theorem rstate_un (M : Nat) (c : UInt32) (k0 k1 k2 k3 k4 k5 k6 k7 k8 k9 k10 k11 k12 k13 k14 k15 k16 k17 k18 k19 k20 k21 k22 k23 k24 k25 k26 k27 k28 k29 k30 k31 n0 n1 n2 n3 n4 n5 n6 n7 n8 n9 n10 n11 : UInt8) :
    ref10_Block (M + 20) [k0, k1, k2, k3, k4, k5, k6, k7, k8, k9, k10, k11, k12, k13, k14, k15, k16, k17, k18, k19, k20, k21, k22, k23, k24, k25, k26, k27, k28, k29, k30, k31] c [n0, n1, n2, n3, n4, n5, n6, n7, n8, n9, n10, n11] =
    ref10_Block_7 (M + 20) (stw [k0, k1, k2, k3, k4, k5, k6, k7, k8, k9, k10, k11, k12, k13, k14, k15, k16, k17, k18, k19, k20, k21, k22, k23, k24, k25, k26, k27, k28, k29, k30, k31] c [n0, n1, n2, n3, n4, n5, n6, n7, n8, n9, n10, n11]) := by kernel_rfl
def cblk (k : List UInt8) (c : UInt32) (n : List UInt8) : List UInt8 := bout (stw k c n) (drs (stw k c n) 10)
theorem cblk_len (k : List UInt8) (c : UInt32) (n : List UInt8) : (cblk k c n).length = 64 := bout_len _ _
section
variable (N : Nat) (hN : 4611686018427387904 ≤ N) {k n : List UInt8} (c : UInt32) (hk : k.length = 32) (hn : n.length = 12)
include hN hk hn
theorem state_ok : chacha_state N k c n = some ((stw k c n, true, ()), ()) ∧ ref10_Block N k c n = ref10_Block_7 N (stw k c n) := by
  obtain ⟨k0, k1, k2, k3, k4, k5, k6, k7, k8, k9, k10, k11, k12, k13, k14, k15, e1⟩ := list16c (l := k.take 16) (by simp; omega)
  obtain ⟨k16, k17, k18, k19, k20, k21, k22, k23, k24, k25, k26, k27, k28, k29, k30, k31, e2⟩ := list16c (l := k.drop 16) (by simp; omega)
  obtain ⟨n0, n1, n2, n3, n4, n5, n6, n7, n8, n9, n10, n11, rfl⟩ := list12 hn
  obtain ⟨M, rfl⟩ := Nat.exists_eq_add_of_le' (show 20 ≤ N by omega)
  have e : k = [k0, k1, k2, k3, k4, k5, k6, k7, k8, k9, k10, k11, k12, k13, k14, k15, k16, k17, k18, k19, k20, k21, k22, k23, k24, k25, k26, k27, k28, k29, k30, k31] := by
    rw [← List.take_append_drop 16 k, e1, e2]; rfl
  subst e
  exact ⟨state_un M c k0 k1 k2 k3 k4 k5 k6 k7 k8 k9 k10 k11 k12 k13 k14 k15 k16 k17 k18 k19 k20 k21 k22 k23 k24 k25 k26 k27 k28 k29 k30 k31 n0 n1 n2 n3 n4 n5 n6 n7 n8 n9 n10 n11,
    rstate_un M c k0 k1 k2 k3 k4 k5 k6 k7 k8 k9 k10 k11 k12 k13 k14 k15 k16 k17 k18 k19 k20 k21 k22 k23 k24 k25 k26 k27 k28 k29 k30 k31 n0 n1 n2 n3 n4 n5 n6 n7 n8 n9 n10 n11⟩
theorem cblock_ok : chacha_Block N k c n = some ((true, ()), (cblk k c n, ())) := by
  unfold chacha_Block cblk
  rw [(state_ok N hN c hk hn).1]
  simp only [dpos, dneg, w64_of, inR_of, room_of, tmod_of, cond_true, cond_false, Bool.and_self, Bool.and_true, Bool.true_and, Bool.and_false, Bool.false_and, Bool.not_true, Bool.not_false, Option.bind_some, List.length_cons, List.length_nil, Nat.zero_add]
  generalize stw k c n = f
  unfold chacha_Block_1
  have h10N : 10 < N := by omega
  obtain ⟨M, hM⟩ := Nat.exists_eq_add_of_le' (show 20 ≤ N by omega)
  refine (loopK_run (fun i : Nat => (((i : Int), ()), (f, drs f i, ()))) (n := 10) ?_ (e := ((), (f, drs f 10, ()))) ?_ h10N).trans ?_
  · intro i hi
    show chacha_Block_s2 N (i : Int) f _ = _
    unfold chacha_Block_s2 chacha_Block_3 chacha_Block_5
    simp (disch := omega) only [dpos, dneg, w64_of, inR_of, room_of, tmod_of, cond_true, cond_false, Bool.and_self, Bool.and_true, Bool.true_and, Bool.and_false, Bool.false_and, Bool.not_true, Bool.not_false, Option.bind_some, List.length_cons, List.length_nil, Nat.zero_add, double_ok, drs, Int.natCast_add, Int.natCast_one]
  · show chacha_Block_s2 N _ f _ = _
    unfold chacha_Block_s2
    simp (disch := omega) only [dpos, dneg, w64_of, inR_of, room_of, tmod_of, cond_true, cond_false, Bool.and_self, Bool.and_true, Bool.true_and, Bool.and_false, Bool.false_and, Bool.not_true, Bool.not_false, Option.bind_some, List.length_cons, List.length_nil, Nat.zero_add]
  · generalize drs f 10 = s
    show chacha_Block_9 N f s = _
    unfold chacha_Block_9
    rw [hM, bout_un]
theorem rblock_ok : ref10_Block N k c n = some ((true, ()), (cblk k c n, ())) := by
  rw [(state_ok N hN c hk hn).2]
  unfold cblk
  generalize stw k c n = f
  unfold ref10_Block_7 ref10_Block_8
  have h10N : 10 < N := by omega
  obtain ⟨M, hM⟩ := Nat.exists_eq_add_of_le' (show 20 ≤ N by omega)
  refine (loopK_run (fun i : Nat => (((i : Int), ()), (f, drs f i, ()))) (n := 10) ?_ (e := ((), (f, drs f 10, ()))) ?_ h10N).trans ?_
  · intro i hi
    show ref10_Block_s9 N (i : Int) f _ = _
    unfold ref10_Block_s9 ref10_Block_10
    simp (disch := omega) only [dpos, dneg, w64_of, inR_of, room_of, tmod_of, cond_true, cond_false, Bool.and_self, Bool.and_true, Bool.true_and, Bool.and_false, Bool.false_and, Bool.not_true, Bool.not_false, Option.bind_some, List.length_cons, List.length_nil, Nat.zero_add, rdouble_ok, drs, Int.natCast_add, Int.natCast_one]
  · show ref10_Block_s9 N _ f _ = _
    unfold ref10_Block_s9
    simp (disch := omega) only [dpos, dneg, w64_of, inR_of, room_of, tmod_of, cond_true, cond_false, Bool.and_self, Bool.and_true, Bool.true_and, Bool.and_false, Bool.false_and, Bool.not_true, Bool.not_false, Option.bind_some, List.length_cons, List.length_nil, Nat.zero_add]
  · generalize drs f 10 = s
    show ref10_Block_19 N f s = _
    unfold ref10_Block_19
    rw [hM, rbout_un]
end
end
end Go.Proofs.YtlamdneheilahaaDoor.Pl
