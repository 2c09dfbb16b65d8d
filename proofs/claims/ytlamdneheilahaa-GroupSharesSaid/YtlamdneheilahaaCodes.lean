/- The choices of ipsecgatemake: whatever they are, each lies in its range; only their own object changes. -/
import Derived.Test.YtlamdneheilahaaAgg
import Derived.BigQuiet
import Derived.Deep.QuietTactic
namespace Go.Proofs.Ytlamdneheilahaa
open Go.RowKit

/-- The object of choices at block g. -/
structure CdAt (w : World) (g : Nat) (A : Option Addr) (n c at_ : Nat) : Prop where
  blk : Blk w g 59 #[.slice A n c, .int .i64 at_]
  le : at_ ≤ n
  nc : n ≤ c
  mx : c ≤ 9223372036854775807
  src : 0 < n → ∃ b o, A = some ⟨b, o, none⟩ ∧ b ≠ g ∧ b < w.heap.size ∧ ∀ j, j < n → ∃ x : Int, 0 ≤ x ∧ x ≤ 255 ∧ w.cell? ⟨b, o + j, none⟩ = some (.int .u8 x)
theorem CdAt.drewN {w : World} {g : Nat} {A : Option Addr} {n c z : Nat} (h : CdAt w g A n c z) (k : Nat) : CdAt (w.drewN k) g A n c z := ⟨h.blk, h.le, h.nc, h.mx, h.src⟩
def Cd (w : World) (g : Nat) : Prop := ∃ A n c at_, CdAt w g A n c at_

theorem Cd.lt {w : World} {g : Nat} (h : Cd w g) : g < w.heap.size := by obtain ⟨A, n, c, k, h⟩ := h; exact h.blk.lt
theorem Cd.ext {w w' : World} {g : Nat} (h : Cd w g) (k : Ext w w') : Cd w' g := by
  obtain ⟨A, n, c, z, h⟩ := h
  refine ⟨A, n, c, z, h.blk.ext k, h.le, h.nc, h.mx, fun hn => ?_⟩
  obtain ⟨b, o, e, h1, h2, h3⟩ := h.src hn
  exact ⟨b, o, e, h1, Nat.lt_of_lt_of_le h2 k.le, fun j hj => by obtain ⟨x, x0, x1, hx⟩ := h3 j hj; exact ⟨x, x0, x1, (k.cells b _ h2).trans hx⟩⟩

/-- Only block g has changed; there may be new blocks. -/
abbrev Upd (g : Nat) (w w' : World) : Prop := w.grownBy w' (some g)
theorem Upd.of_ext {w w' : World} {g : Nat} (h : Ext w w') : Upd g w w' := ⟨h.os, h.tape, h.output, h.size, fun k hk _ => h.block k hk⟩
theorem Upd.trans {a b c : World} {g : Nat} (h : Upd g a b) (k : Upd g b c) : Upd g a c := World.grownBy.trans h k
theorem Upd.ext {W w w' : World} {g : Nat} (h : Ext W w) (k : Upd g w w') (hg : W.heap.size ≤ g) : Ext W w' := h.grown k fun r hr => by injection hr with hr; omega

set_option maxHeartbeats 1000000 in
theorem codes_left (g : Nat) (A : Option Addr) (n c z : Nat) (w : World) (h : CdAt w g A n c z) :
    Calls Try.prog 56 #[.pointer (some ⟨g, 0, none⟩)] w fun e w' => e = .returned (.bool (decide (z < n))) ∧ ∃ k, w' = w.drewN k := by
  have c0 : w.cell? ⟨g, 0, none⟩ = some (.slice A n c) := h.blk.cell 0
  have c1 : w.cell? ⟨g, 1, none⟩ = some (.int .i64 z) := h.blk.cell 1
  go_enter Try.func56, Try.ntmps56
  go_wp2_with fail
  go_quiet (fail)
  go_wp2_with fail
  go_ret
  exact ⟨ret_b (by simp), _, rfl⟩

set_option maxHeartbeats 1000000 in
theorem codes_next (g : Nat) (m : Int) (w : World) (h : Cd w g) (hm : 1 ≤ m) (hm2 : m ≤ 256) :
    Calls Try.prog 37 #[.pointer (some ⟨g, 0, none⟩), .int .i64 m] w fun e w' => ∃ r : Int, e = .returned (.int .i64 r) ∧ 0 ≤ r ∧ r < m ∧ Cd w' g ∧ Upd g w w' := by
  obtain ⟨A, n, c, z, h⟩ := h
  have c0 : w.cell? ⟨g, 0, none⟩ = some (.slice A n c) := h.blk.cell 0
  have c1 : w.cell? ⟨g, 1, none⟩ = some (.int .i64 z) := h.blk.cell 1
  have f1 : w.frozen? ⟨g, 1, none⟩ = false := h.blk.free 1
  have hle := h.le; have hnc := h.nc; have hmx := h.mx
  by_cases hz : z < n
  · obtain ⟨b, o, rfl, hb, hlt, hx⟩ := h.src (by omega)
    obtain ⟨x, x0, x1, hc⟩ := hx z hz
    have hc' : (w.setCell ⟨g, 1, none⟩ (.int .i64 ((z : Int) + 1))).cell? ⟨b, o + z, none⟩ = some (.int .u8 x) := by
      rw [World.cell?_of_block (Below.heap_setCell _ _ _ _ hb)]; exact hc
    have hne : ¬ g = b := fun e => hb e.symm
    have hd1 : decide (z < n) = true := by simpa using hz
    go_enter Try.func37, Try.ntmps37
    go_wp2_with fail
    refine (codes_left g _ n c z _ h).mono ?_
    rintro e w' ⟨rfl, k, rfl⟩
    go_wp2_with fail
    go_quiet (fail)
    go_wp2_with fail
    go_ret
    have hb2 : Blk (w.setCell ⟨g, 1, none⟩ (.int .i64 ((z : Int) + 1))) g 59 #[.slice (some ⟨b, o, none⟩) n c, .int .i64 ((z + 1 : Nat) : Int)] := h.blk.set_ 1 _
    refine ⟨x % m, rfl, Int.emod_nonneg _ (by omega), Int.emod_lt_of_pos _ (by omega), ⟨some ⟨b, o, none⟩, n, c, z + 1, hb2, by omega, hnc, hmx, fun _ => ⟨b, o, rfl, hb, by simpa [World.setCell] using hlt, fun j hj => ?_⟩⟩, ⟨rfl, rfl, rfl, by simp [World.setCell], fun i hi hne => ?_⟩⟩
    · obtain ⟨y, y0, y1, hy⟩ := hx j hj
      refine ⟨y, y0, y1, ?_⟩
      show (w.setCell ⟨g, 1, none⟩ (.int .i64 ((z : Int) + 1))).cell? ⟨b, o + j, none⟩ = _
      rw [World.cell?_of_block (Below.heap_setCell _ _ _ _ hb)]
      exact hy
    · exact Below.heap_setCell w ⟨g, 1, none⟩ _ i (fun e => hne (by rw [e]))
  · have hd1 : decide (z < n) = false := by simpa using hz
    go_enter Try.func37, Try.ntmps37
    go_wp2_with fail
    refine (codes_left g _ n c z _ h).mono ?_
    rintro e w' ⟨rfl, k, rfl⟩
    go_wp2_with fail
    go_ret
    exact ⟨0, rfl, by omega, by omega, ⟨A, n, c, z, h.drewN k⟩, Upd.of_ext ((Ext.refl w).drewN k)⟩

theorem u64_add256 (v r : Int) (v0 : 0 ≤ v) (r0 : 0 ≤ r) (r1 : r < 256) : 0 ≤ bits .or .u64 (IntKind.u64.wrap (v * 256)) r ∧ bits .or .u64 (IntKind.u64.wrap (v * 256)) r ≤ 18446744073709551615 := by
  rw [u64_or _ _ (by rw [IntKind.wrap_u64]; omega) (by rw [IntKind.wrap_u64]; omega) (by omega) (by omega), IntKind.wrap_u64]
  have h := Nat.or_lt_two_pow (n := 64) (x := (v * 256 % 18446744073709551616).toNat) (y := r.toNat) (by omega) (by omega)
  omega

set_option maxHeartbeats 1000000 in
theorem codes_word (g : Nat) (w : World) (h : Cd w g) :
    Calls Try.prog 25 #[.pointer (some ⟨g, 0, none⟩)] w fun e w' => ∃ r : Int, e = .returned (.int .u64 r) ∧ 0 ≤ r ∧ r ≤ 18446744073709551615 ∧ Cd w' g ∧ Upd g w w' := by
  go_enter Try.func25, Try.ntmps25
  go_wp2_with fail
  refine (codes_next g 6 _ h (by omega) (by omega)).mono ?_
  rintro e w1 ⟨r, rfl, r0, r1, h1, u1⟩
  by_cases k0 : r = 0
  · subst k0
    go_wp2_with fail
    refine (codes_next g 4 _ h1 (by omega) (by omega)).mono ?_
    rintro e w2 ⟨s, rfl, s0, s1, h2, u2⟩
    go_wp2_with fail
    go_ret
    exact ⟨s, rfl, s0, by omega, h2, u1.trans u2⟩
  · by_cases k1 : r = 1
    · subst k1
      go_wp2_with fail
      refine (codes_next g 3 _ h1 (by omega) (by omega)).mono ?_
      rintro e w2 ⟨s, rfl, s0, s1, h2, u2⟩
      go_wp2_with fail
      go_ret
      exact ⟨18446744073709551615 - s, rfl, by omega, by omega, h2, u1.trans u2⟩
    · have e0 : (r == 0) = false := by simpa using k0
      have e1 : (r == 1) = false := by simpa using k1
      go_wp2_with fail
      go_loopw [3, 4] (fun v i wr => ∃ (k : Nat) (x : Int), k ≤ 8 ∧ i = .int .i64 k ∧ v = .int .u64 x ∧ 0 ≤ x ∧ x ≤ 18446744073709551615 ∧ Cd wr g ∧ Upd g w wr) (fun _ i _ => 8 - (intOf i).toNat)
      case atStart => exact ⟨0, 0, by omega, rfl, rfl, by omega, by omega, h1, u1⟩
      case round =>
        obtain ⟨k, x, hk, rfl, rfl, x0, x1, hc, hu⟩ := hrel
        by_cases h8 : k < 8
        · go_wp2_with fail
          refine (codes_next g 256 _ hc (by omega) (by omega)).mono ?_
          rintro e w2 ⟨s, rfl, s0, s1, h2, u2⟩
          have hb := u64_add256 x s x0 s0 s1
          go_wp2_with fail
          go_roundw
          case rel => exact ⟨k + 1, _, by omega, by go_num, rfl, hb.1, hb.2, h2, hu.trans u2⟩
          case measure => simp [intOf] <;> omega
        · go_wp2_with fail
          go_ret
          exact ⟨x, rfl, x0, x1, hc, hu⟩

theorem codes_secret (g : Nat) (w : World) (h : Cd w g) :
    Calls Try.prog 27 #[.pointer (some ⟨g, 0, none⟩)] w fun e w' => ∃ r : Int, e = .returned (.int .u64 r) ∧ 1 ≤ r ∧ r < 2305843009213688669 ∧ Cd w' g ∧ Upd g w w' := by
  go_enter Try.func27, Try.ntmps27
  go_wp2_with fail
  refine (codes_word g _ h).mono ?_
  rintro e w1 ⟨r, rfl, r0, r1, h1, u1⟩
  go_wp2_with fail
  go_ret
  exact ⟨1 + r % 2305843009213688668, rfl, by omega, by omega, h1, u1⟩

/-- New: the object of choices, in a new block. -/
theorem codes_new (A : Option Addr) (n c : Nat) (l : List UInt8) (m : Nat) (w : World) (hr : Rd w 1 A n (bvs l)) (hn : n ≤ c) (hc : c ≤ maxLen) (hm : m ≤ 1000000) :
    Calls Try.prog 13 #[.slice A n c, .int .i64 m] w fun e w' => ∃ g, e = .returned (.pointer (some ⟨g, 0, none⟩)) ∧ w.heap.size ≤ g ∧ Cd w' g ∧ Ext w w' := by
  have hmx : c ≤ 9223372036854775807 := by simpa [maxLen] using hc
  have src : ∀ k, k ≤ n → 0 < k → ∃ b o, A = some ⟨b, o, none⟩ ∧ b ≠ w.heap.size ∧ b < w.heap.size + 1 ∧ ∀ j, j < k → ∃ x : Int, 0 ≤ x ∧ x ≤ 255 ∧ ∀ X, (w.alloc X).cell? ⟨b, o + j, none⟩ = some (.int .u8 x) := by
    intro k hk h0
    obtain ⟨b, o, e, hb, hcell⟩ := hr.atB (by omega)
    refine ⟨b, o, e, by omega, by omega, fun j hj => ⟨_, by omega, ?_, fun X => ((((Ext.refl w).alloc X).cells b _ hb).trans (hcell j (by omega)))⟩⟩
    have := (l.getD j 0).toNat_lt
    omega
  have Src := hd src; clear src
  by_cases h : m < n
  · go_enter Try.func13, Try.ntmps13
    go_wp2_with fail
    go_ret
    refine ⟨w.heap.size, rfl, Nat.le_refl _, ⟨A, m, c, 0, Blk.new _ _ _, by omega, by omega, hmx, fun h0 => ?_⟩, (Ext.refl w).alloc _⟩
    obtain ⟨b, o, e, h1, h2, h3⟩ := Src.out m (by omega) h0
    exact ⟨b, o, e, h1, by simpa using h2, fun j hj => by obtain ⟨x, x0, x1, hx⟩ := h3 j hj; exact ⟨x, x0, x1, hx _⟩⟩
  · go_enter Try.func13, Try.ntmps13
    go_wp2_with fail
    go_ret
    refine ⟨w.heap.size, rfl, Nat.le_refl _, ⟨A, n, c, 0, Blk.new _ _ _, by omega, by omega, hmx, fun h0 => ?_⟩, (Ext.refl w).alloc _⟩
    obtain ⟨b, o, e, h1, h2, h3⟩ := Src.out n (by omega) h0
    exact ⟨b, o, e, h1, by simpa using h2, fun j hj => by obtain ⟨x, x0, x1, hx⟩ := h3 j hj; exact ⟨x, x0, x1, hx _⟩⟩
end Go.Proofs.Ytlamdneheilahaa
