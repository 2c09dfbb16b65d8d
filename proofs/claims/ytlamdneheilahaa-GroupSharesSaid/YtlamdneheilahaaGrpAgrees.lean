/- The law GroupAgrees: its walk. -/
import Derived.Test.YtlamdneheilahaaGrpLaws
import Derived.Test.YtlamdneheilahaaShare
namespace Go.Proofs.Ytlamdneheilahaa
open Go.RowKit

theorem sc_ok {s : Int} (s0 : 1 ≤ s) (s1 : s < 2305843009213688669) : sc s = true := by unfold sc; simp; omega
/-- An owned row, opened: a slice that reads as its bytes. -/
theorem own_rd {w : World} {base e n : Nat} {v : Value} {l : List UInt8} (h : w.ownsRow base e 1 v n (bvs l)) : ∃ A c, v = .slice A n c ∧ n ≤ c ∧ c ≤ 9223372036854775807 ∧ Rd w 1 A n (bvs l) ∧ n = l.length := by
  obtain ⟨A, c, rfl, h1, h2⟩ := own_slice h
  exact ⟨A, c, rfl, h1, by simpa [maxLen] using h2, Rd.of_own h, (Rd.of_own h).lenB.symm⟩

theorem shared_ok (s p : Int) (s0 : 1 ≤ s) (s1 : s < 2305843009213688669) (p0 : 0 ≤ p) (p1 : p < 4611686018427377339) (he : el p = true) (w : World) :
    Calls Try.prog 29 #[.int .u64 s, .int .u64 p] w fun e w' => ∃ A c, e = .returned (.tuple #[.slice A 8 c, .int .i64 0]) ∧ c ≤ 9223372036854775807 ∧ 8 ≤ c ∧ Rd w' 1 A 8 (bvs (be 8 (pw p s).toNat)) ∧ Ext w w' := by
  refine (group_shared s p (by omega) (by omega) p0 (by omega) w).mono ?_
  rintro e w' ⟨v, n, rfl, ho, hx⟩
  rw [sc_ok s0 s1, he]
  have hs : shr s p = be 8 (pw p s).toNat := by unfold shr; rw [sc_ok s0 s1, he]; rfl
  rw [hs] at ho
  obtain ⟨A, c, rfl, h1, h2, h3, h4⟩ := own_rd ho
  rw [be_len] at h4
  subst h4
  exact ⟨A, c, rfl, h2, h1, h3, hx⟩

set_option maxHeartbeats 4000000 in
theorem law13_agrees (w : World) (A : Option Addr) (n c : Nat) (l : List UInt8) (hr : Rd w 1 A n (bvs l)) (hn : n ≤ c) (hc : c ≤ maxLen) :
    Calls Try.prog 11 #[.slice A n c] w fun en w' => en = .returned (.bool true) ∧ Ext w w' := by
  go_enter Try.func11, Try.ntmps11
  go_wp2_with fail
  refine (law13_awake _).mono ?_
  rintro en w' ⟨rfl, m1, rfl⟩
  go_wp2_with fail
  refine (codes_new A n c l 60 _ (hr.drewN m1) hn hc (by omega)).mono ?_
  rintro en w1 ⟨g, rfl, hg, k1, x1⟩
  have hg : w.heap.size ≤ g := hg
  have x1 : Ext w w1 := ((Ext.refl w).drewN m1).trans x1
  go_wp2_with fail
  refine (codes_secret g _ k1).mono ?_
  rintro en w2 ⟨a, rfl, a0, a1, k2, u2⟩
  go_wp2_with fail
  refine (codes_secret g _ k2).mono ?_
  rintro en w3 ⟨b, rfl, b0, b1, k3, u3⟩
  have x3 : ∀ z, Ext w (w3.drewN z) := fun z => ((u2.trans u3).ext x1 hg).drewN z
  have X3 := hd x3
  clear x3 x1 u2 u3 k1 k2 k3
  go_wp2_with fail
  refine (public_ok a a0 a1 _).mono ?_
  rintro en w' ⟨rfl, m2, rfl⟩
  go_wp2_with fail
  refine (public_ok b b0 b1 _).mono ?_
  rintro en w' ⟨rfl, m3, rfl⟩
  have e1 := el_pw a a0 a1
  have e2 := el_pw b b0 b1
  have hcm := pw_comm a b (by omega) (by omega)
  obtain ⟨x, hx⟩ : ∃ x, pw 4 a = x := ⟨_, rfl⟩
  obtain ⟨y, hy⟩ : ∃ y, pw 4 b = y := ⟨_, rfl⟩
  have i1 := pw_nn 4 a
  have i2 := pw_nn 4 b
  rw [hx] at e1 hcm i1 ⊢
  rw [hy] at e2 hcm i2 ⊢
  have Hcm := hd hcm
  obtain ⟨x0, x1⟩ := i1
  obtain ⟨y0, y1⟩ := i2
  clear hx hy hcm
  go_wp2_with fail
  refine (shared_ok a y a0 a1 y0 y1 e2 _).mono ?_
  rintro en w4 ⟨B1, c1, rfl, hc1, hcc1, r1, xx4⟩
  go_wp2_with fail
  refine (shared_ok b x b0 b1 x0 x1 e1 _).mono ?_
  rintro en w5 ⟨B2, c2, rfl, hc2, hcc2, r2, xx5⟩
  obtain ⟨X, rfl⟩ := Int.eq_ofNat_of_zero_le x0
  go_wp2_with fail
  refine (group_bytes X _ (by omega)).mono ?_
  rintro en w6 ⟨v, rfl, ho, xx6⟩
  obtain ⟨B3, c3, rfl, hcc3, hc3, r3, -⟩ := own_rd ho
  go_wp2_with fail
  refine (group_parse B3 8 c3 _ _ r3 hcc3 hc3).mono ?_
  have hv : val (be 8 X) = X := by rw [val_be]; exact Nat.mod_eq_of_lt (by omega)
  have hp : prs (be 8 X) = ((X : Int), 0) := by unfold prs; rw [be_len, hv, e1]; rfl
  rw [hp]
  rintro en w' ⟨rfl, m4, rfl⟩
  have r1' : Rd (w6.drewN m4) 1 B1 8 (bvs (be 8 (pw y a).toNat)) := ((r1.ext xx5).ext xx6).drewN m4
  have r2' : Rd (w6.drewN m4) 1 B2 8 (bvs (be 8 (pw (X : Int) b).toNat)) := (r2.ext xx6).drewN m4
  rw [Hcm.out] at r2'
  have fin : Ext w w6 := ((X3.out _).trans xx4).trans (xx5.trans xx6)
  have Fin := hd fin
  clear r1 r2 r3 ho xx4 xx5 xx6 fin hv hp
  go_wp2_with (first
    | (go_at_call 17; refine (ref_equal B1 B2 8 8 c1 c2 _ _ _ r1' r2' (by omega) (by omega)).mono ?_; rintro en w' ⟨rfl, m5, rfl⟩)
    | (go_at_call 23; refine (group_element _ (by omega) (by omega) _).mono ?_; rintro en w' ⟨rfl, m6, rfl⟩))
  go_ret
  exact ⟨rfl, Fin.out.drewN _⟩
end Go.Proofs.Ytlamdneheilahaa
