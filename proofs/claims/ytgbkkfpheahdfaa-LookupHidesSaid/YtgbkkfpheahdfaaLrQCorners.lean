/- Plain: the packets at the corners of boxes (ref20.Corners): how many, and of what kind; packets that are made. -/
import Derived.Test.YtgbkkfpheahdfaaLrQRefBox
import Derived.Test.YtgbkkfpheahdfaaFnsLookupHidesC
import Derived.Test.YtgbkkfpheahdfaaFnsLookupHidesA
set_option linter.unusedVariables false
set_option linter.unusedSimpArgs false
namespace Go.Proofs.Ytgbkkfpheahdfaa.Pl
open Go
abbrev Rl := Int × (List UInt8 × (List Bx × Unit))
theorem mport_ok (N : Nat) {c : List UInt8 × (Int × Unit)} (hc : COk c) : ∃ v c', make_Codes_port N c = some ((v, ()), (c', ())) ∧ COk c' ∧ 0 ≤ v ∧ v ≤ 65535 := by
  unfold make_Codes_port
  obtain ⟨u, c1, e1, u0, u1, k1⟩ := next_ok N (n := 5) hc (by omega)
  obtain ⟨z, c2, e2, z0, z1, k2⟩ := next_ok N (n := 6) k1 (by omega)
  rw [e1]
  simp only [Option.bind_some]
  rw [inR_of u0 (by simpa using u1), cond_true, e2]
  have hx : ∀ x : Int, x = ([(0 : Int), (80 : Int), (443 : Int), (65530 : Int), (1 : Int)] : List Int).getD u.toNat 0 → 0 ≤ x ∧ x ≤ 65530 := by
    rintro x rfl
    have : u.toNat = 0 ∨ u.toNat = 1 ∨ u.toNat = 2 ∨ u.toNat = 3 ∨ u.toNat = 4 := by omega
    rcases this with h | h | h | h | h <;> rw [h] <;> decide
  obtain ⟨x0, x1⟩ := hx _ rfl
  refine ⟨_, _, rfl, k2, ?_, ?_⟩ <;> simp only <;> rw [w64_of (by omega) (by omega)] <;> omega
theorem packet_ok (N : Nat) {c : List UInt8 × (Int × Unit)} (hc : COk c) : ∃ p c', make_Codes_Packet N c = some ((p, ()), (c', ())) ∧ COk c' ∧ POk p := by
  unfold make_Codes_Packet
  obtain ⟨v, c1, e1, v0, v1, k1⟩ := next_ok N (n := 4) hc (by omega)
  rw [e1]
  simp only [Option.bind_some]
  have key : ∀ (f : Int) t, ∃ p c', make_Codes_Packet_1 N f c1 t = some ((p, ()), (c', ())) ∧ COk c' ∧ POk p := by
    intro f t
    unfold make_Codes_Packet_1
    obtain ⟨a, c2, e2, k2, _⟩ := address_ok N f k1
    obtain ⟨b, c3, e3, k3, _⟩ := address_ok N f k2
    obtain ⟨u, c4, e4, u0, u1, k4⟩ := next_ok N (n := 8) k3 (by omega)
    obtain ⟨w, c5, e5, w0, w1, k5⟩ := next_ok N (n := 4) k4 (by omega)
    rw [e2]; simp only [Option.bind_some]
    rw [e3]; simp only [Option.bind_some]
    rw [e4]; simp only [Option.bind_some]
    rw [inR_of u0 (by simpa using u1), cond_true, e5]
    simp only [Option.bind_some]
    have hx : ∀ x : Int, x = ([(6 : Int), (17 : Int), (1 : Int), (58 : Int), (0 : Int), (255 : Int), (8 : Int), (3 : Int)] : List Int).getD u.toNat 0 → 0 ≤ x ∧ x ≤ 255 := by
      rintro x rfl
      have : u.toNat = 0 ∨ u.toNat = 1 ∨ u.toNat = 2 ∨ u.toNat = 3 ∨ u.toNat = 4 ∨ u.toNat = 5 ∨ u.toNat = 6 ∨ u.toNat = 7 := by omega
      rcases this with h | h | h | h | h | h | h | h <;> rw [h] <;> decide
    obtain ⟨x0, x1⟩ := hx _ rfl
    by_cases h0 : w = 0
    · rw [dpos h0]
      exact ⟨_, _, rfl, k5, ⟨by simp only; omega, by simp only; omega⟩, ⟨by simp only; omega, by simp only; omega⟩, ⟨by simp only; omega, by simp only; omega⟩⟩
    by_cases h1 : w = 1
    · rw [dneg h0, dpos h1]
      obtain ⟨y, c6, e6, k6, y0, y1⟩ := mport_ok N k5
      rw [e6]
      exact ⟨_, _, rfl, k6, ⟨by simp only; omega, by simp only; omega⟩, ⟨by simp only; omega, by simp only; omega⟩, ⟨by simp only; omega, by simp only; omega⟩⟩
    · rw [dneg h0, dneg h1]
      obtain ⟨y, c6, e6, k6, y0, y1⟩ := mport_ok N k5
      obtain ⟨z, c7, e7, k7, z0, z1⟩ := mport_ok N k6
      rw [e6]
      simp only [cond_false, Option.bind_some]
      rw [e7]
      exact ⟨_, _, rfl, k7, ⟨by simp only; omega, by simp only; omega⟩, ⟨by simp only; omega, by simp only; omega⟩, ⟨by simp only; omega, by simp only; omega⟩⟩
  by_cases h3 : v = 3
  · rw [dpos h3]; exact key 6 ((0, 0, 0, ()), (0, 0, 0, ()), 0, 0, 0, ())
  · rw [dneg h3]; exact key 4 ((0, 0, 0, ()), (0, 0, 0, ()), 0, 0, 0, ())
/-- The points that matter of range k. -/
def endsL (lo hi first last : V) : List V := [lo, hi] ++ (if lo = first then [] else [ahead lo]) ++ (if hi = last then [] else [behind hi])
theorem endsL_len (lo hi first last : V) : 2 ≤ (endsL lo hi first last).length ∧ (endsL lo hi first last).length ≤ 4 := by
  unfold endsL
  split <;> split <;> simp
theorem ends_1 (N : Nat) (lo hi first last : V) : ref20_ends_1 N lo hi [lo, hi] first last = some ((), (endsL lo hi first last, ())) := by
  unfold ref20_ends_1 ref20_ends_2 endsL
  rw [dqV, dqV]
  by_cases h1 : lo = first <;> by_cases h2 : hi = last <;> simp (disch := omega) only [dpos, dneg, h1, h2, not_false_eq_true, if_true, if_false, dpos, dneg, w64_of, inR_of, room_of, tmod_of, cond_true, cond_false, Bool.and_self, Bool.and_true, Bool.true_and, Bool.and_false, Bool.false_and, Bool.not_true, Bool.not_false, Option.bind_some, List.length_cons, List.length_nil, Nat.zero_add, back_ok, on_ok, List.append_nil, List.length_append] <;> rfl
theorem number_r (N : Nat) (n : Int) : ref20_number N n = some ((nv n, ()), ()) := rfl
theorem all_some (N : Nat) (hN : 4611686018427387904 ≤ N) {f : Int} (hf : f = 4 ∨ f = 6) : ∃ lo hi, ref18_All N f = some ((lo, hi, ()), ()) := by
  unfold ref18_All
  obtain ⟨lo, hi, e, hp, hs⟩ := prefix_ok N (a := (f, 0, 0, ())) (n := 0) hf ⟨rfl, fun _ => ⟨rfl, by show (0 : UInt64).toNat < _; decide⟩⟩ (by omega) (by omega) hN
  rw [hp]
  exact ⟨_, _, rfl⟩
theorem ends_addr (N : Nat) (hN : 4611686018427387904 ≤ N) {b : Bx} (hb : BOk b) {k : Nat} (hk : k < 2) : ∃ l, ref20_ends N b (k : Int) = some ((), (l, ())) ∧ 2 ≤ l.length ∧ l.length ≤ 4 := by
  obtain ⟨f, hf, nb, _⟩ := bok_np hb
  have hfam := fam_of nb
  unfold ref20_ends
  rw [low_ok N b (show k < 5 by omega), high_ok N b (show k < 5 by omega), number_r, number_r]
  simp only [Option.bind_some]
  obtain ⟨lo, hi, e⟩ := all_some N hN hf
  have : k = 0 ∨ k = 1 := by omega
  rcases this with rfl | rfl
  · have e1 : ((ofB b).getD 0 s0).1.1 = f := hfam.1
    rw [e1, e]
    exact ⟨_, ends_1 N _ _ _ _, (endsL_len _ _ _ _).1, (endsL_len _ _ _ _).2⟩
  · have e1 : ((ofB b).getD 1 s0).1.1 = f := hfam.2.2.1
    rw [e1, e]
    exact ⟨_, ends_1 N _ _ _ _, (endsL_len _ _ _ _).1, (endsL_len _ _ _ _).2⟩
theorem endsL_rng {f : Int} {k : Nat} (hk : k < 5) {s : Sd} (h : NS f k s) {first last : V} (h1 : vk first = bg f k) (h2 : vk last = nd f k) : ∀ v ∈ endsL s.1 s.2.1 first last, bg f k ≤ vk v ∧ vk v ≤ nd f k := by
  obtain ⟨r1, r2, r3⟩ := h
  intro v hv
  unfold endsL at hv
  rcases List.mem_append.1 hv with hv | hv
  · rcases List.mem_append.1 hv with hv | hv
    · simp only [List.mem_cons, List.not_mem_nil, or_false] at hv
      rcases hv with rfl | rfl <;> omega
    · split at hv
      · cases hv
      · rename_i hne
        obtain rfl := List.mem_singleton.1 hv
        have : vk s.1 ≠ vk first := fun e => hne (vk_inj e)
        rw [ahead_of (f := f) hk (by omega) (by omega)]; omega
  · split at hv
    · cases hv
    · rename_i hne
      obtain rfl := List.mem_singleton.1 hv
      have : vk s.2.1 ≠ vk last := fun e => hne (vk_inj e)
      rw [behind_of (f := f) hk (by omega) (by omega)]; omega
theorem ends_num (N : Nat) {b : Bx} (hb : BOk b) {k : Nat} (h2 : 2 ≤ k) (hk : k < 5) : ∃ l, ref20_ends N b (k : Int) = some ((), (l, ())) ∧ 2 ≤ l.length ∧ l.length ≤ 4 ∧ ∀ v ∈ l, -1 ≤ nm v ∧ nm v ≤ 65535 := by
  obtain ⟨f, hf, nb, _⟩ := bok_np hb
  unfold ref20_ends
  rw [low_ok N b hk, high_ok N b hk, number_r, number_r]
  simp only [Option.bind_some]
  have fin : ∀ first last : V, vk first = bg f k → vk last = nd f k → ∀ v ∈ endsL ((ofB b).getD k s0).1 ((ofB b).getD k s0).2.1 first last, -1 ≤ nm v ∧ nm v ≤ 65535 := by
    intro first last h1 h2' v hv
    obtain ⟨q1, q2⟩ := endsL_rng hk (nb.rng k hk) h1 h2' v hv
    have hb0 : 0 ≤ bg f k ∧ nd f k ≤ 65536 := by
      unfold bg nd
      have : k = 2 ∨ k = 3 ∨ k = 4 := by omega
      rcases this with rfl | rfl | rfl <;> simp
    rw [nm_vk (by omega) (by omega)]
    omega
  have h3 : k = 2 ∨ k = 3 ∨ k = 4 := by omega
  rcases h3 with rfl | rfl | rfl
  · exact ⟨_, ends_1 N _ _ _ _, (endsL_len _ _ _ _).1, (endsL_len _ _ _ _).2, fin _ _ (vk_nv (by omega) (by omega)) (vk_nv (by omega) (by omega))⟩
  · exact ⟨_, ends_1 N _ _ _ _, (endsL_len _ _ _ _).1, (endsL_len _ _ _ _).2, fin _ _ (vk_nv (by omega) (by omega)) (vk_nv (by omega) (by omega))⟩
  · exact ⟨_, ends_1 N _ _ _ _, (endsL_len _ _ _ _).1, (endsL_len _ _ _ _).2, fin _ _ (vk_nv (by omega) (by omega)) (vk_nv (by omega) (by omega))⟩
/-- Packets so far. -/
def PsOk (M : Nat) (out : List Pk) : Prop := (∀ p ∈ out, POk p) ∧ out.length ≤ M
theorem tdivN (a b : Nat) : ((a : Int)).tdiv (b : Int) = ((a / b : Nat) : Int) := by rw [Int.tdiv_eq_ediv_of_nonneg (by omega)]; exact (Int.natCast_ediv a b).symm
theorem tmodN (a b : Nat) : ((a : Int)).tmod (b : Int) = ((a % b : Nat) : Int) := by rw [Int.tmod_eq_emod_of_nonneg (by omega)]; exact (Int.natCast_emod a b).symm
theorem mulN (a b : Nat) : (a : Int) * (b : Int) = ((a * b : Nat) : Int) := (Int.natCast_mul a b).symm
theorem w64N {k : Nat} (h : k ≤ 1000000000) : w64 (k : Int) = (k : Int) := w64_of (by omega) (by omega)
theorem inRN {i n : Nat} (h : i < n) : inR (i : Int) n = true := inR_of (by omega) (by omega)
theorem getD_mem {α : Type} {l : List α} {i : Nat} (h : i < l.length) (d : α) : l.getD i d ∈ l := by
  rw [List.getD_eq_getElem?_getD, List.getElem?_eq_getElem h]; exact List.getElem_mem h
section
variable (N : Nat) (hN : 4611686018427387904 ≤ N) {M : Nat} (hM : M ≤ 100000)
include hN hM
theorem corners_in (l : List Rl) (i j : Int) (j0 : 0 ≤ j) (j1 : j ≤ 1000000) {v w x y z : List V} (hv : 2 ≤ v.length ∧ v.length ≤ 4) (hw : 2 ≤ w.length ∧ w.length ≤ 4) (hx : 2 ≤ x.length ∧ x.length ≤ 4) (hy : 2 ≤ y.length ∧ y.length ≤ 4) (hz : 2 ≤ z.length ∧ z.length ≤ 4)
    (gx : ∀ u ∈ x, -1 ≤ nm u ∧ nm u ≤ 65535) (gy : ∀ u ∈ y, -1 ≤ nm u ∧ nm u ≤ 65535) (gz : ∀ u ∈ z, -1 ≤ nm u ∧ nm u ≤ 65535) {out : List Pk} (ho : PsOk M out) :
    ∃ r, ref20_Corners_11 N l (M : Int) i j 0 out v w x y z = some r ∧ ((∃ o', PsOk M o' ∧ r = .go ((l, (M : Int), i, j + 1, ()), (o', ()))) ∨ (∃ o', PsOk M o' ∧ r = .rt (.rt ((), (o', ()))))) := by
  have hvw : v.length * w.length ≤ 4 * 4 := Nat.mul_le_mul hv.2 hw.2
  have hvwx : v.length * w.length * x.length ≤ 4 * 4 * 4 := Nat.mul_le_mul hvw hx.2
  have hvwxy : v.length * w.length * x.length * y.length ≤ 4 * 4 * 4 * 4 := Nat.mul_le_mul hvwx hy.2
  have hall : v.length * w.length * x.length * y.length * z.length ≤ 4 * 4 * 4 * 4 * 4 := Nat.mul_le_mul hvwxy hz.2
  have ew : w64 ((w64 ((w64 ((w64 ((v.length : Int) * (w.length : Int))) * (x.length : Int))) * (y.length : Int))) * (z.length : Int)) = ((v.length * w.length * x.length * y.length * z.length : Nat) : Int) := by
    rw [mulN v.length w.length, w64_of (x := ((v.length * w.length : Nat) : Int)) (by omega) (by omega), mulN, w64_of (x := ((v.length * w.length * x.length : Nat) : Int)) (by omega) (by omega), mulN, w64_of (x := ((v.length * w.length * x.length * y.length : Nat) : Int)) (by omega) (by omega), mulN, w64_of (by omega) (by omega)]
  unfold ref20_Corners_11
  refine loopK_of (N := N) (I := fun s => ∃ (n : Nat) (o : List Pk), s = ((l, (M : Int), i, j, (n : Int), ()), (o, v, w, x, y, z, ())) ∧ n ≤ 1024 ∧ PsOk M o) (μ := fun s => (1024 - s.1.2.2.2.2.1).toNat) _ ?_ ⟨0, out, rfl, by omega, ho⟩ (by simp only; omega)
  rintro _ ⟨n, o, rfl, hn, ho⟩
  show ∃ r, ref20_Corners_s12 N l (M : Int) i j (n : Int) o v w x y z = some r ∧ _
  unfold ref20_Corners_s12
  rw [ew]
  by_cases hlt : n < v.length * w.length * x.length * y.length * z.length
  · rw [dpos (by omega), cond_true]
    by_cases hm : (M : Int) ≤ (o.length : Int)
    · rw [dpos hm]
      exact ⟨_, rfl, .inr ⟨o, ho, rfl⟩⟩
    · rw [dneg hm, cond_false]
      have n1 : n / z.length < v.length * w.length * x.length * y.length := Nat.div_lt_of_lt_mul (by rw [Nat.mul_comm]; exact hlt)
      have n2 : n / z.length / y.length < v.length * w.length * x.length := Nat.div_lt_of_lt_mul (by rw [Nat.mul_comm]; exact n1)
      have n3 : n / z.length / y.length / x.length < v.length * w.length := Nat.div_lt_of_lt_mul (by rw [Nat.mul_comm]; exact n2)
      have n4 : n / z.length / y.length / x.length / w.length < v.length := Nat.div_lt_of_lt_mul (by rw [Nat.mul_comm]; exact n3)
      have m0 : n % z.length < z.length := Nat.mod_lt _ (by omega)
      have m1 : n / z.length % y.length < y.length := Nat.mod_lt _ (by omega)
      have m2 : n / z.length / y.length % x.length < x.length := Nat.mod_lt _ (by omega)
      have m3 : n / z.length / y.length / x.length % w.length < w.length := Nat.mod_lt _ (by omega)
      have w1 : w64 ((n / z.length : Nat) : Int) = ((n / z.length : Nat) : Int) := w64N (by omega)
      have w2 : w64 ((n / z.length / y.length : Nat) : Int) = ((n / z.length / y.length : Nat) : Int) := w64N (by omega)
      have w3 : w64 ((n / z.length / y.length / x.length : Nat) : Int) = ((n / z.length / y.length / x.length : Nat) : Int) := w64N (by omega)
      have w4 : w64 ((n / z.length / y.length / x.length / w.length : Nat) : Int) = ((n / z.length / y.length / x.length / w.length : Nat) : Int) := w64N (by omega)
      have z1 : ¬ ((z.length : Int) = 0) := by omega
      have z2 : ¬ ((y.length : Int) = 0) := by omega
      have z3 : ¬ ((x.length : Int) = 0) := by omega
      have z4 : ¬ ((w.length : Int) = 0) := by omega
      have i0 : inR ((n % z.length : Nat) : Int) z.length = true := inRN (by omega)
      have i1 : inR ((n / z.length % y.length : Nat) : Int) y.length = true := inRN (by omega)
      have i2 : inR ((n / z.length / y.length % x.length : Nat) : Int) x.length = true := inRN (by omega)
      have i3 : inR ((n / z.length / y.length / x.length / w.length : Nat) : Int) v.length = true := inRN (by omega)
      have i4 : inR ((n / z.length / y.length / x.length % w.length : Nat) : Int) w.length = true := inRN (by omega)
      have hr : ∀ q : Pk, room (o.length + ([q] : List Pk).length) 72 = true := fun q => room_of (by have := ho.2; simp only [List.length_cons, List.length_nil]; omega)
      simp only [tmodN, tdivN, dneg z1, dneg z2, dneg z3, dneg z4, Bool.not_false, cond_true, w1, w2, w3, w4, i0, i1, i2, i3, i4, hr, Int.toNat_natCast]
      refine ⟨_, rfl, ⟨n + 1, _, by rw [w64_of (by omega) (by omega)]; rfl, by omega, ?_, ?_⟩, by simp only; rw [w64_of (by omega) (by omega)]; omega⟩
      · intro q hq
        rcases List.mem_append.1 hq with hq | hq
        · exact ho.1 q hq
        · obtain rfl := List.mem_singleton.1 hq
          exact ⟨gx _ (getD_mem m2 _), gy _ (getD_mem m1 _), gz _ (getD_mem m0 _)⟩
      · have := ho.2; simp only [List.length_append, List.length_cons, List.length_nil]; omega
  · rw [dneg (by omega), cond_false]
    refine ⟨_, rfl, _, rfl, .inl ⟨o, ho, ?_⟩⟩
    have hw : w64 (j + 1) = j + 1 := w64_of (by omega) (by omega)
    show Lo.go ((l, (M : Int), i, w64 (j + 1), ()), (o, ())) = _
    rw [hw]
theorem corners_mid (l : List Rl) {i : Nat} (hi : i < l.length) (hl : l.length ≤ 100000) {B : List Bx} (hB : (l.getD i (0, [], [], ())).2.2.1 = B) (hb : ∀ b ∈ B, BOk b) (hlen : B.length ≤ 100000) {out : List Pk} (ho : PsOk M out) :
    ∃ r, ref20_Corners_6 N l (M : Int) (i : Int) 0 out = some r ∧ ((∃ o', PsOk M o' ∧ r = .go ((l, (M : Int), (i : Int) + 1, ()), (o', ()))) ∨ (∃ o', PsOk M o' ∧ r = .rt ((), (o', ())))) := by
  unfold ref20_Corners_6
  refine loopK_of (N := N) (I := fun s => ∃ (j : Nat) (o : List Pk), s = ((l, (M : Int), (i : Int), (j : Int), ()), (o, ())) ∧ j ≤ B.length ∧ PsOk M o) (μ := fun s => ((B.length : Int) - s.1.2.2.2.1).toNat) _ ?_ ⟨0, out, rfl, by omega, ho⟩ (by simp only; omega)
  rintro _ ⟨j, o, rfl, hj, ho⟩
  show ∃ r, ref20_Corners_s7 N l (M : Int) (i : Int) (j : Int) o = some r ∧ _
  unfold ref20_Corners_s7 ref20_Corners_8 ref20_Corners_10
  have ir : inR (i : Int) l.length = true := inR_of (by omega) (by omega)
  simp only [ir, cond_true, Int.toNat_natCast, hB]
  by_cases hlt : j < B.length
  · have jr : inR (j : Int) B.length = true := inR_of (by omega) (by omega)
    rw [dpos (by omega), jr]
    simp only [cond_true]
    have hbx := hb _ (getD_mem hlt ((0, 0, 0, ()), (0, 0, 0, ()), (0, 0, 0, ()), (0, 0, 0, ()), 0, 0, List.replicate 2 0, List.replicate 2 0, ()))
    generalize B.getD j ((0, 0, 0, ()), (0, 0, 0, ()), (0, 0, 0, ()), (0, 0, 0, ()), 0, 0, List.replicate 2 0, List.replicate 2 0, ()) = b at *
    obtain ⟨v, ev, hv⟩ := ends_addr N hN hbx (k := 0) (by omega)
    obtain ⟨w, ewd, hw⟩ := ends_addr N hN hbx (k := 1) (by omega)
    obtain ⟨x, ex, hx, hx', gx⟩ := ends_num N hbx (k := 2) (by omega) (by omega)
    obtain ⟨y, ey, hy, hy', gy⟩ := ends_num N hbx (k := 3) (by omega) (by omega)
    obtain ⟨z, ez, hz, hz', gz⟩ := ends_num N hbx (k := 4) (by omega) (by omega)
    have ev' : ref20_ends N b 0 = _ := ev
    have ew' : ref20_ends N b 1 = _ := ewd
    have ex' : ref20_ends N b 2 = _ := ex
    have ey' : ref20_ends N b 3 = _ := ey
    have ez' : ref20_ends N b 4 = _ := ez
    rw [ev', Option.bind_some, ew', Option.bind_some, ex', Option.bind_some, ey', Option.bind_some, ez', Option.bind_some]
    obtain ⟨r, hr, hq⟩ := corners_in N hN hM l (i : Int) (j : Int) (by omega) (by omega) hv hw ⟨hx, hx'⟩ ⟨hy, hy'⟩ ⟨hz, hz'⟩ gx gy gz ho
    refine ⟨r, hr, ?_⟩
    rcases hq with ⟨o', ho', rfl⟩ | ⟨o', ho', rfl⟩
    · exact ⟨⟨j + 1, o', rfl, by omega, ho'⟩, by simp only; omega⟩
    · exact .inr ⟨o', ho', rfl⟩
  · rw [dneg (by omega)]
    refine ⟨_, rfl, _, rfl, .inl ⟨o, ho, ?_⟩⟩
    have hw : w64 ((i : Int) + 1) = (i : Int) + 1 := w64_of (by omega) (by omega)
    show Lo.go ((l, (M : Int), w64 ((i : Int) + 1), ()), (o, ())) = _
    rw [hw]
theorem corners_ok (l : List Rl) (hl : l.length ≤ 100000) (hb : ∀ r ∈ l, r.2.2.1.length ≤ 100000 ∧ ∀ b ∈ r.2.2.1, BOk b) : ∃ o, ref20_Corners N l (M : Int) = some ((), (o, ())) ∧ PsOk M o := by
  unfold ref20_Corners ref20_Corners_1
  have := loopK_of (N := N) (step := fun y => ref20_Corners_s2 N y.1.1 y.1.2.1 y.1.2.2.1 y.2.1) (J := fun (e : ((Unit) × ((List Pk) × Unit))) => ref20_Corners_15 N e.2.1) (I := fun s => ∃ (i : Nat) (o : List Pk), s = ((l, (M : Int), (i : Int), ()), (o, ())) ∧ i ≤ l.length ∧ PsOk M o) (μ := fun s => ((l.length : Int) - s.1.2.2.1).toNat)
    (T := fun r => ∃ o, r = ((), (o, ())) ∧ PsOk M o) ?_ (x := ((l, (M : Int), 0, ()), ([], ()))) ⟨0, [], rfl, by omega, by simp [PsOk]⟩ (by simp only; omega)
  · obtain ⟨r, h1, o, rfl, h2⟩ := this
    exact ⟨o, h1, h2⟩
  · rintro _ ⟨i, o, rfl, hi, ho⟩
    show ∃ r, ref20_Corners_s2 N l (M : Int) (i : Int) o = some r ∧ _
    unfold ref20_Corners_s2 ref20_Corners_3 ref20_Corners_5
    by_cases hlt : i < l.length
    · rw [dpos (by omega), cond_true]
      have hbx := hb _ (getD_mem hlt (0, [], [], ()))
      obtain ⟨r, hr, hq⟩ := corners_mid N hN hM l hlt hl rfl hbx.2 hbx.1 ho
      refine ⟨r, hr, ?_⟩
      rcases hq with ⟨o', ho', rfl⟩ | ⟨o', ho', rfl⟩
      · exact ⟨⟨i + 1, o', rfl, by omega, ho'⟩, by simp only; omega⟩
      · exact ⟨o', rfl, ho'⟩
    · rw [dneg (by omega)]
      exact ⟨_, rfl, _, rfl, o, rfl, ho⟩
end
end Go.Proofs.Ytgbkkfpheahdfaa.Pl
