/- The law GroupShares: its walk. -/
import Derived.Test.YtlamdneheilahaaGrpAgrees
import Derived.Test.YtlamdneheilahaaGrpComputes
import Derived.Test.YtlamdneheilahaaShareRef
import Derived.Deep.RegionHeld3
namespace Go.Proofs.Ytlamdneheilahaa
open Go.RowKit

set_option maxRecDepth 1000000 in
set_option maxHeartbeats 8000000 in
theorem law13_shares (w : World) (A : Option Addr) (n c : Nat) (l : List UInt8) (hr : Rd w 1 A n (bvs l)) (hn : n ≤ c) (hc : c ≤ maxLen) (a : Int) (a0 : 0 ≤ a) (a1 : a ≤ 18446744073709551615) (b : Int) (b0 : 0 ≤ b) (b1 : b ≤ 18446744073709551615)
    (R : Option Addr) (rn rc : Nat) (rl : List UInt8) (rr : Rd w 1 R rn (bvs rl)) (rhn : rn ≤ rc) (rhc : rc ≤ maxLen) :
    Calls Try.prog 10 #[.slice A n c, .int .u64 a, .int .u64 b, .slice R rn rc] w fun en w' => en = .returned (.bool true) ∧ Ext w w' := by
  go_enter Try.func10, Try.ntmps10
  go_wp2_with fail
  refine (law13_awake _).mono ?_
  rintro en w' ⟨rfl, m1, rfl⟩
  go_wp2_with fail
  refine (codes_new A n c l 60 _ (hr.drewN m1) hn hc (by omega)).mono ?_
  rintro en w1 ⟨g, rfl, hg, k1, x1⟩
  have hg : w.heap.size ≤ g := hg
  have x1 : Ext w w1 := ((Ext.refl w).drewN m1).trans x1
  go_wp2_with fail
  refine (codes_secret g _ k1).mono ?_
  rintro en w2 ⟨s, rfl, s0, s1, k2, u2⟩
  go_wp2_with fail
  refine (codes_secret g _ k2).mono ?_
  rintro en w3 ⟨t, rfl, t0, t1, k3, u3⟩
  have x3 : Ext w w3 := (u2.trans u3).ext x1 hg
  clear x1 u2 u3 k1 k2 k3
  go_wp2_with fail
  refine (ref_public t (by omega) (by omega) _).mono ?_
  have hst := sc_ok t0 t1
  rw [hst]
  simp only [cond_true]
  rintro en w' ⟨rfl, rfl⟩
  have i2 := pw_nn 4 t
  obtain ⟨y, hy⟩ : ∃ y, pw 4 t = y := ⟨_, rfl⟩
  rw [hy] at i2 ⊢
  obtain ⟨y0, y1⟩ := i2
  clear hst hy
  go_wp2_with fail
  go_loopw [64] (fun i wr => ∃ (k : Nat), k ≤ 6 ∧ i = .int .i64 k ∧ Ext w wr ∧ Blk wr w3.heap.size 38 #[.int .u64 a, .int .u64 b, .int .u64 s, .int .u64 y, .int .u64 a, .int .u64 y, .int .u64 s, .int .u64 b, .int .u64 (2305843009213688668 + a % 3), .int .u64 y, .int .u64 s, .int .u64 1]) (fun i _ => 6 - (intOf i).toNat)
  case atStart => exact ⟨0, by omega, rfl, x3.alloc _, Blk.new _ _ _⟩
  case round =>
    obtain ⟨k, hk, rfl, hx, hb⟩ := hrel
    by_cases h6 : k < 6
    · obtain ⟨p, q, p0, p1, q0, q1, hs⟩ : ∃ p q : Int, 0 ≤ p ∧ p ≤ 18446744073709551615 ∧ 0 ≤ q ∧ q ≤ 18446744073709551615 ∧ (([.int .u64 a, .int .u64 b, .int .u64 s, .int .u64 y, .int .u64 a, .int .u64 y, .int .u64 s, .int .u64 b, .int .u64 (2305843009213688668 + a % 3), .int .u64 y, .int .u64 s, .int .u64 1] : List Value).drop (k * 2)).take 2 = [.int .u64 p, .int .u64 q] := by
        rcases (by omega : k = 0 ∨ k = 1 ∨ k = 2 ∨ k = 3 ∨ k = 4 ∨ k = 5) with rfl | rfl | rfl | rfl | rfl | rfl
        all_goals exact ⟨_, _, by omega, by omega, by omega, by omega, rfl⟩
      have hcc := hd (hb.sub (k * 2) 2 hs)
      clear hs
      go_wp2_with (with_reducible refine ld (o := ⟨some 67, _, _, _, _, _⟩) tA2 rfl _ rfl _ _ rfl [.int .u64 p, .int .u64 q] rfl ?_ ?_)
      case refine_1 => exact hcc.out
      clear hcc
      obtain ⟨wa, hwa⟩ : ∃ wa, wr.alloc (.cells #[.int .u64 p, .int .u64 q] 38) = wa := ⟨_, rfl⟩
      have xa : Ext wr wa := by rw [← hwa]; exact (Ext.refl _).alloc _
      have ba : Blk wa wr.heap.size 38 #[.int .u64 p, .int .u64 q] := by rw [← hwa]; exact Blk.new _ _ _
      rw [hwa]
      clear hwa
      refine (group_public p p0 p1 _).mono ?_
      rintro en w' ⟨rfl, m2, rfl⟩
      have e0 : wa.cell? ⟨wr.heap.size, 0, none⟩ = some (.int .u64 p) := ba.cell 0
      have e1 : wa.cell? ⟨wr.heap.size, 1, none⟩ = some (.int .u64 q) := ba.cell 1
      go_wp2_with fail
      refine (ref_public p p0 p1 _).mono ?_
      rintro en w' ⟨rfl, rfl⟩
      go_wp2_with fail
      refine (group_shared p q p0 p1 q0 q1 _).mono ?_
      rintro en w4 ⟨v4, n4, rfl, ho4, x4⟩
      obtain ⟨B4, c4, rfl, hcc4, hc4, r4, -⟩ := own_rd ho4
      have x4 : Ext wa w4 := ((Ext.refl wa).drewN m2).trans x4
      have b4 := ba.ext x4
      have e0' : w4.cell? ⟨wr.heap.size, 0, none⟩ = some (.int .u64 p) := b4.cell 0
      have e1' : w4.cell? ⟨wr.heap.size, 1, none⟩ = some (.int .u64 q) := b4.cell 1
      clear e0 e1
      go_wp2_with fail
      refine (ref_shared p q p0 p1 q0 q1 _).mono ?_
      rintro en w5 ⟨v5, n5, rfl, ho5, x5⟩
      obtain ⟨B5, c5, rfl, hcc5, hc5, r5, -⟩ := own_rd ho5
      have b5 := b4.ext x5
      have e1 : w5.cell? ⟨wr.heap.size, 1, none⟩ = some (.int .u64 q) := b5.cell 1
      have r4' := r4.ext x5
      have hlt5 : wr.heap.size < w5.heap.size := b5.lt
      clear e0' e1' ho4 ho5 r4
      obtain ⟨Q, rfl⟩ := Int.eq_ofNat_of_zero_le q0
      go_wp2_with fail
      go_region_held3 (fun w' => w'.cell? ⟨wr.heap.size, 1, none⟩ = some (.int .u64 (Q : Int))) (first | assumption | (exact (x6.cells _ _ hlt5).trans e1) | (exact (x7.cells _ _ (Nat.lt_of_lt_of_le hlt5 x6.le)).trans ((x6.cells _ _ hlt5).trans e1)) | go_keep)
        (first
          | (go_at_call 17; with_reducible refine (ref_equal B4 B5 n4 n5 c4 c5 _ _ _ (r4'.drew) (r5.drew) (by omega) (by omega)).mono ?_; rintro en w' ⟨rfl, m6, rfl⟩)
          | (go_at_call 31; refine (group_bytes Q _ (by omega)).mono ?_; rintro en w6 ⟨v6, rfl, ho6, x6⟩; obtain ⟨B6, c6, rfl, hcc6, hc6, r6, -⟩ := own_rd ho6)
          | (go_at_call 32; refine (ref_bytes Q _ (by omega)).mono ?_; rintro en w7 ⟨v7, rfl, ho7, x7⟩; obtain ⟨B7, c7, rfl, hcc7, hc7, r7, -⟩ := own_rd ho7)
          | (go_at_call 17; refine (ref_equal B6 B7 8 8 c6 c7 _ _ _ (r6.ext x7) r7 (by omega) (by omega)).mono ?_; rintro en w' ⟨rfl, m7, rfl⟩))
      have xe : ∀ z, Ext w (w7.drewN z) := fun z => ((hx.trans xa).trans (x4.trans x5)).trans (((Ext.refl _).drewN (1 + m6)).trans x6 |>.trans x7) |>.drewN z
      have be : ∀ z, Blk (w7.drewN z) w3.heap.size 38 _ := fun z => (((((hb.ext xa).ext x4).ext x5).ext (((Ext.refl _).drewN (1 + m6)).trans x6)).ext x7).drewN z
      have XE := hd xe
      have BE := hd be
      clear xe be x6 x7 r6 r7 ho6 ho7 r4' r5 b5 b4 ba e1 x4 x5 xa
      go_wp2_with fail
      go_roundw
      case rel => exact ⟨k + 1, by omega, by go_num, XE.out _, BE.out _⟩
      case measure => simp [intOf] <;> omega
    · obtain rfl : k = 6 := by omega
      clear hb
      obtain ⟨Y, rfl⟩ := Int.eq_ofNat_of_zero_le y0
      obtain ⟨B, rfl⟩ := Int.eq_ofNat_of_zero_le b0
      go_wp2_with fail
      refine (ref_bytes Y _ (by omega)).mono ?_
      rintro en w6 ⟨v6, rfl, ho6, x6⟩
      obtain ⟨B6, c6, rfl, hcc6, hc6, r6, -⟩ := own_rd ho6
      go_wp2_with fail
      refine (ref_bytes B _ (by omega)).mono ?_
      rintro en w7 ⟨v7, rfl, ho7, x7⟩
      obtain ⟨B7, c7, rfl, hcc7, hc7, r7, -⟩ := own_rd ho7
      have xe := hx.trans (x6.trans x7)
      have rhc' : rc ≤ 9223372036854775807 := by simpa [maxLen] using rhc
      have rr' := rr.ext xe
      have r6' := r6.ext x7
      clear x6 x7 ho6 ho7 r6 hx x3 hk h6 rr rhc s0 s1 t0 t1 y0 y1 b0 b1 a0 a1 hr hn hc
      go_wp2_with fail
      go_loopw [133] (fun i wr => ∃ (k : Nat), k ≤ 3 ∧ i = .int .i64 k ∧ Ext w wr ∧ Ext w7 wr ∧ Blk wr w7.heap.size 22 #[.slice R rn rc, .slice B6 8 c6, .slice B7 8 c7]) (fun i _ => 3 - (intOf i).toNat)
      case atStart => exact ⟨0, by omega, rfl, xe.alloc _, (Ext.refl _).alloc _, Blk.new _ _ _⟩
      case round =>
        obtain ⟨k, hk, rfl, hx', hx7, hb⟩ := hrel
        by_cases h3 : k < 3
        · obtain ⟨F, fn, fc, fl, hcell, hfr, hfn, hfc⟩ : ∃ F fn fc fl, (#[.slice R rn rc, .slice B6 8 c6, .slice B7 8 c7] : Array Value)[k]? = some (.slice F fn fc) ∧ Rd w7 1 F fn (bvs fl) ∧ fn ≤ fc ∧ fc ≤ 9223372036854775807 := by
            rcases (by omega : k = 0 ∨ k = 1 ∨ k = 2) with rfl | rfl | rfl
            · exact ⟨R, rn, rc, _, rfl, rr', rhn, rhc'⟩
            · exact ⟨_, _, _, _, rfl, r6', hcc6, hc6⟩
            · exact ⟨_, _, _, _, rfl, r7, hcc7, hc7⟩
          have ec := (hb.cell k).trans hcell
          have hf := hfr.ext hx7
          clear hcell hfr rr' r6' r7 hcc6 hcc7 hc6 hc7 xe rhn rhc'
          go_wp2_with fail
          refine (group_parse F fn fc fl _ hf hfn hfc).mono ?_
          rintro en w' ⟨rfl, m8, rfl⟩
          go_wp2_with fail
          refine (ref_parse F fn fc fl _ (hf.drewN m8) hfn hfc).mono ?_
          rintro en w' ⟨rfl, rfl⟩
          go_wp2_with fail
          go_roundw
          case rel => exact ⟨k + 1, by omega, by go_num, hx'.drewN _, hx7.drewN _, hb.drewN _⟩
          case measure => simp [intOf] <;> omega
        · obtain rfl : k = 3 := by omega
          go_wp2_with fail
          go_ret
          exact ⟨rfl, hx'⟩
end Go.Proofs.Ytlamdneheilahaa
