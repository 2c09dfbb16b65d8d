/- The laws GroupLaws and GroupOrders: their walks. -/
import Derived.Test.YtlamdneheilahaaGrpNum
import Derived.Test.YtlamdneheilahaaCodes
namespace Go.Proofs.Ytlamdneheilahaa
open Go.RowKit

theorem bne_of {a b : Int} (h : a = b) : (a != b) = false := by subst h; simp
theorem beq_of {a b : Int} (h : a = b) : (a == b) = true := by subst h; simp
theorem mul_assoc_p (a b x : Int) : a * b % 4611686018427377339 * x % 4611686018427377339 = a * (b * x % 4611686018427377339) % 4611686018427377339 := by
  rw [Int.mul_emod, Int.emod_emod_of_dvd _ (Int.dvd_refl _), ← Int.mul_emod, Int.mul_assoc, Int.mul_emod]
  conv => rhs; rw [Int.mul_emod, Int.emod_emod_of_dvd _ (Int.dvd_refl _)]

theorem public_ok (s : Int) (s0 : 1 ≤ s) (s1 : s < 2305843009213688669) (w : World) : Calls Try.prog 26 #[.int .u64 s] w fun en w' =>
    en = .returned (.tuple #[.int .u64 (pw 4 s), .int .i64 0]) ∧ ∃ n, w' = w.drewN n := by
  have h := group_public s (by omega) (by omega) w
  have hs : sc s = true := by unfold sc; simp; omega
  rw [hs] at h
  exact h

set_option maxHeartbeats 4000000 in
theorem law13_laws (w : World) (A : Option Addr) (n c : Nat) (l : List UInt8) (hr : Rd w 1 A n (bvs l)) (hn : n ≤ c) (hc : c ≤ maxLen) (d : Int) (d0 : 0 ≤ d) (d1 : d ≤ 18446744073709551615) (e : Int) (e0 : 0 ≤ e) (e1 : e ≤ 18446744073709551615) :
    Calls Try.prog 8 #[.slice A n c, .int .u64 d, .int .u64 e] w fun en w' => en = .returned (.bool true) ∧ Ext w w' := by
  go_enter Try.func8, Try.ntmps8
  go_wp2_with fail
  refine (law13_awake _).mono ?_
  rintro en w' ⟨rfl, m1, rfl⟩
  go_wp2_with fail
  refine (codes_new A n c l 80 _ (hr.drewN m1) hn hc (by omega)).mono ?_
  rintro en w1 ⟨g, rfl, hg, k1, x1⟩
  have hg : w.heap.size ≤ g := hg
  have x1 : Ext w w1 := ((Ext.refl w).drewN m1).trans x1
  go_wp2_with fail
  refine (codes_word g _ k1).mono ?_
  rintro en w2 ⟨a, rfl, a0, a1, k2, u2⟩
  go_wp2_with fail
  refine (codes_word g _ k2).mono ?_
  rintro en w3 ⟨b, rfl, b0, b1, k3, u3⟩
  go_wp2_with fail
  refine (codes_word g _ k3).mono ?_
  rintro en w4 ⟨x, rfl, x0, xx1, k4, u4⟩
  have x4 : Ext w w4 := ((u2.trans u3).trans u4).ext x1 hg
  clear u2 u3 u4 k2 k3 k1 x1
  have f1 := bne_of (congrArg (· % 4611686018427377339) (Int.mul_comm a b))
  have f2 := bne_of (mul_assoc_p a b x)
  have g1 := pw_nn a (d / 2)
  have g2 := pw_nn a (e / 2)
  have f3 := bne_of (pw_mul a (d / 2) (e / 2) (by omega) (by omega))
  go_wp2_with (first
    | (go_at_call 19; refine (group_mul _ _ (by omega) (by omega) (by omega) (by omega) _).mono ?_; rintro en w' ⟨rfl, mm, rfl⟩)
    | (go_at_call 21; refine (group_power _ _ (by omega) (by omega) (by omega) (by omega) _).mono ?_; rintro en w' ⟨rfl, mm, rfl⟩))
  clear f1 f2 f3 g1 g2
  refine (codes_secret g _ (k4.ext ((Ext.refl _).drewN _))).mono ?_
  rintro en w5 ⟨s, rfl, s0, s1, k5, u5⟩
  go_wp2_with fail
  refine (public_ok s s0 s1 _).mono ?_
  rintro en w' ⟨rfl, m5, rfl⟩
  go_wp2_with fail
  refine (codes_secret g _ (k5.ext ((Ext.refl _).drewN _))).mono ?_
  rintro en w6 ⟨t, rfl, t0, t1, k6, u6⟩
  go_wp2_with fail
  refine (public_ok t t0 t1 _).mono ?_
  rintro en w' ⟨rfl, m6, rfl⟩
  have p1 := pw_nn 4 s
  have p2 := pw_nn 4 t
  go_wp2_with fail
  refine (group_mul _ _ (by omega) (by omega) (by omega) (by omega) _).mono ?_
  rintro en w' ⟨rfl, m7, rfl⟩
  have q := pw_q2 s t (by omega) (by omega)
  obtain ⟨M, hM⟩ : ∃ M, pw 4 s * pw 4 t % 4611686018427377339 = M := ⟨_, rfl⟩
  rw [hM] at q ⊢
  have M0 : 0 ≤ M := by omega
  have M1 : M < 4611686018427377339 := by omega
  have hor := el_of M M0 M1 q
  have HM := hd hM
  have q2 : (pw M 2305843009213688669 == 1) = true := by rw [q]; rfl
  clear hM q p1 p2
  have xe : ∀ z, Ext w (w6.drewN z) := by
    intro z
    refine Ext.drewN ?_ _
    refine u6.ext ?_ hg
    refine Ext.drewN ?_ _
    exact u5.ext (x4.drewN _) hg
  have xe' := hd xe
  clear xe
  by_cases h1 : M = 1
  · have h1' : (M == 1) = true := by simpa using h1
    clear hor h1
    go_wp2_with (go_at_call 21; refine (group_power _ _ (by omega) (by omega) (by omega) (by omega) _).mono ?_; rintro en w' ⟨rfl, mm, rfl⟩)
    go_ret
    exact ⟨rfl, xe'.out _⟩
  · have h1' : (M == 1) = false := by simpa using h1
    have h2 : el M = true := by rcases hor with h | h; exact absurd h h1; exact h
    clear hor h1
    go_wp2_with (first
      | (go_at_call 23; refine (group_element _ (by omega) (by omega) _).mono ?_; rintro en w' ⟨rfl, mm, rfl⟩)
      | (go_at_call 21; refine (group_power _ _ (by omega) (by omega) (by omega) (by omega) _).mono ?_; rintro en w' ⟨rfl, mm, rfl⟩))
    go_ret
    exact ⟨rfl, xe'.out _⟩

set_option maxHeartbeats 4000000 in
theorem law13_orders (w : World) (A : Option Addr) (n c : Nat) (l : List UInt8) (hr : Rd w 1 A n (bvs l)) (hn : n ≤ c) (hc : c ≤ maxLen) (a : Int) (a0 : 0 ≤ a) (a1 : a ≤ 18446744073709551615) :
    Calls Try.prog 9 #[.slice A n c, .int .u64 a] w fun en w' => en = .returned (.bool true) ∧ Ext w w' := by
  go_enter Try.func9, Try.ntmps9
  go_wp2_with fail
  refine (law13_awake _).mono ?_
  rintro en w' ⟨rfl, m1, rfl⟩
  go_wp2_with fail
  refine (codes_new A n c l 40 _ (hr.drewN m1) hn hc (by omega)).mono ?_
  rintro en w1 ⟨g, rfl, hg, k1, x1⟩
  have hg : w.heap.size ≤ g := hg
  have x1 : Ext w w1 := ((Ext.refl w).drewN m1).trans x1
  go_wp2_with fail
  refine (codes_secret g _ k1).mono ?_
  rintro en w2 ⟨s, rfl, s0, s1, k2, u2⟩
  have x2 : ∀ z, Ext w (w2.drewN z) := fun z => (u2.ext x1 hg).drewN z
  have X2 := hd x2
  clear x2 x1 u2 k1 k2
  go_wp2_with fail
  refine (public_ok s s0 s1 _).mono ?_
  rintro en w' ⟨rfl, m2, rfl⟩
  obtain ⟨x, hx⟩ : ∃ x, 1 + a % 4611686018427377338 = x := ⟨_, rfl⟩
  have b0 : 1 ≤ x := by omega
  have b1 : x < 4611686018427377339 := by omega
  have y1 := pw_nn 4 s
  have z1 := pw_nn x 4611686018427377337
  have f1 : (pw 4 2305843009213688669 == 1) = true := beq_of pw_4_q
  have f2 : (pw (pw 4 s) 2305843009213688669 == 1) = true := beq_of (pw_q s (by omega))
  have f3 : (pw x 4611686018427377338 == 1) = true := beq_of (pw_fermat x b0 b1)
  have f4 : (x * pw x 4611686018427377337 % 4611686018427377339 == 1) = true := beq_of (pw_inv x b0 b1)
  go_wp2_with (first
    | (go_at_call 19; refine (group_mul _ _ (by omega) (by omega) (by omega) (by omega) _).mono ?_; rintro en w' ⟨rfl, mm, rfl⟩)
    | (go_at_call 21; refine (group_power _ _ (by omega) (by omega) (by omega) (by omega) _).mono ?_; rintro en w' ⟨rfl, mm, rfl⟩))
  go_ret
  exact ⟨rfl, X2.out _⟩
end Go.Proofs.Ytlamdneheilahaa
