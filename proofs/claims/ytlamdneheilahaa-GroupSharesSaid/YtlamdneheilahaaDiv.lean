import Derived.Test.YtlamdneheilahaaProg
import Derived.WalkKit
import Derived.Outline
import Derived.Lib.Mul64
import Derived.Test.YtlamdneheilahaaBase
import Derived.Laws.Bits64b
import Derived.Shelf.Bits.Mul64
import Derived.BigQuiet
import Derived.Deep.QuietTactic
namespace Go.Proofs.Ytlamdneheilahaa
open Go.RowKit

set_option maxRecDepth 100000 in
theorem lz_p (w : World) : Calls Try.prog 58 #[.int .u64 4611686018427377339] w fun e w' => e = .returned (.int .i64 2) ∧ w = w' := by
  go_enter Try.func58, Try.ntmps58
  go_wp2
  go_ret
  exact ⟨by kernel_rfl, rfl⟩

theorem or_lo (hi lo : Int) (h0 : 0 ≤ hi) (h1 : hi < 1152921504606846976) (l0 : 0 ≤ lo) (l1 : lo ≤ 18446744073709551615) :
    bits .or .u64 (hi * 4) (lo / 4611686018427387904) = hi * 4 + lo / 4611686018427387904 := by
  rw [u64_or _ _ (by omega) (by omega) (by omega) (by omega), nat_join 2 _ _ (by omega) (by omega)]
  omega
theorem and_lo (L : Int) (h0 : 0 ≤ L) (h1 : L ≤ 18446744073709551615) : bits .and .u64 L 4294967295 = L % 4294967296 := by
  rw [u64_and _ _ (by omega) (by omega) (by omega) (by omega)]
  have : ((4294967295 : Int).toNat) = 2 ^ 32 - 1 := by decide
  rw [this, Nat.and_two_pow_sub_one_eq_mod]
  omega

theorem fin_p (hi lo U L u0 u1 V Q x : Int) (h0 : 0 ≤ hi) (l0 : 0 ≤ lo) (l1 : lo ≤ 18446744073709551615) (g1 : U = hi * 4 + lo / 4611686018427387904) (g2 : L = lo * 4 % 18446744073709551616)
    (g3 : u0 = L % 4294967296) (g4 : L / 4294967296 = u1) (g5 : V = U * 4294967296 + u1 - Q * 18446744073709509356)
    (ha : 0 ≤ V * 4294967296 + u0 - x * 18446744073709509356) (hb : V * 4294967296 + u0 - x * 18446744073709509356 < 18446744073709509356) :
    IntKind.u64.wrap (IntKind.u64.wrap (IntKind.u64.wrap (V * 4294967296) + u0) - IntKind.u64.wrap (x * 18446744073709509356)) / 4 = (hi * 18446744073709551616 + lo) % 4611686018427377339 := by
  have k : IntKind.u64.wrap (IntKind.u64.wrap (IntKind.u64.wrap (V * 4294967296) + u0) - IntKind.u64.wrap (x * 18446744073709509356)) = V * 4294967296 + u0 - x * 18446744073709509356 := by simp only [IntKind.wrap_u64]; omega
  rw [k]
  omega

set_option maxHeartbeats 1600000 in
set_option maxRecDepth 100000 in
theorem div_p (hi lo : Int) (h0 : 0 ≤ hi) (h1 : hi < 1152921504606846976) (hne : (hi == 0) = false) (l0 : 0 ≤ lo) (l1 : lo ≤ 18446744073709551615) (w : World) :
    Calls Try.prog 48 #[.int .u64 hi, .int .u64 lo, .int .u64 4611686018427377339] w fun e w' =>
      (∃ q, e = .returned (.tuple #[.int .u64 q, .int .u64 ((hi * 18446744073709551616 + lo) % 4611686018427377339)])) ∧ w = w' := by
  obtain ⟨U, hU⟩ : ∃ U, U = hi * 4 + lo / 4611686018427387904 := ⟨_, rfl⟩
  have e1 := or_lo hi lo h0 h1 l0 l1
  rw [← hU] at e1
  have U0 : 0 ≤ U := by omega
  have U1 : U < 4611686018427387904 := by omega
  obtain ⟨L, hL⟩ : ∃ L, L = lo * 4 % 18446744073709551616 := ⟨_, rfl⟩
  have e2 : IntKind.u64.wrap (lo * 4) = L := by rw [IntKind.wrap_u64]; exact hL.symm
  have L0 : 0 ≤ L := by omega
  have L1 : L ≤ 18446744073709551615 := by omega
  have e3 := and_lo L L0 L1
  obtain ⟨u0, hu0⟩ : ∃ u0, u0 = L % 4294967296 := ⟨_, rfl⟩
  rw [← hu0] at e3
  obtain ⟨u1, hu1⟩ : ∃ u1, L / 4294967296 = u1 := ⟨_, rfl⟩
  have a0 : 0 ≤ u0 := by omega
  have a1 : u0 ≤ 4294967295 := by omega
  have b0 : 0 ≤ u1 := by omega
  have b1 : u1 ≤ 4294967295 := by omega
  have e4 : bits .and .u64 18446744073709509356 4294967295 = 4294925036 := by decide
  have HU := hd hU; have HL := hd hL; have Hu0 := hd hu0; have Hu1 := hd hu1
  clear hU hL hu0
  go_enter Try.func48, Try.ntmps48
  go_wp2_with (go_at_call 58; refine (lz_p _).mono ?_; rintro e w' ⟨rfl, rfl⟩)
  go_loop [15, 16] (fun a b => ∃ q r : Int, a = .int .u64 q ∧ b = .int .u64 r ∧ 0 ≤ q ∧ q ≤ 2147483647 ∧ 0 ≤ r ∧ r ≤ 4294967295 ∧ Hid (q * 4294967295 + r = U) ∧ U * 4294967296 + u1 < (q + 1) * 18446744073709509356) (fun a b => (intOf a).toNat)
  case atStart => exact ⟨U / 4294967295, U - U / 4294967295 * 4294967295, by go_num, by go_num, by omega, by omega, by omega, by omega, by unfold Hid; omega, by omega⟩
  case round =>
    obtain ⟨q, r, rfl, rfl, q0, q1, r0, r1, hqr, hq⟩ := hrel
    by_cases hc : q * 4294925036 ≤ 4294967296 * r + u1
    · obtain ⟨V, hV⟩ : ∃ V, V = U * 4294967296 + u1 - q * 18446744073709509356 := ⟨_, rfl⟩
      have V0 : 0 ≤ V := by have := hqr.out; omega
      have V1 : V < 18446744073709509356 := by omega
      have ev : IntKind.u64.wrap (IntKind.u64.wrap (IntKind.u64.wrap (U * 4294967296) + u1) - IntKind.u64.wrap (q * 18446744073709509356)) = V := by simp only [IntKind.wrap_u64]; omega
      have HV := hd hV; clear hV
      go_wp2
      clear hq
      go_loop [18, 16] (fun a b => ∃ x z : Int, a = .int .u64 x ∧ b = .int .u64 z ∧ 0 ≤ x ∧ x ≤ 4294967298 ∧ 0 ≤ z ∧ z ≤ 4294967295 ∧ Hid (x * 4294967295 + z = V) ∧ V * 4294967296 + u0 < (x + 1) * 18446744073709509356) (fun a b => (intOf a).toNat)
      case atStart => exact ⟨V / 4294967295, V - V / 4294967295 * 4294967295, by go_num, by go_num, by omega, by omega, by omega, by omega, by unfold Hid; omega, by omega⟩
      case round =>
        obtain ⟨x, z, rfl, rfl, x0, x1, z0, z1, hxz, hx⟩ := hrel
        by_cases hg : x < 4294967296 ∧ x * 4294925036 ≤ 4294967296 * z + u0
        · have fin := fin_p hi lo U L u0 u1 V _ x h0 l0 l1 HU.out HL.out Hu0.out Hu1.out HV.out (by have := hxz.out; omega) (by have := hxz.out; omega)
          obtain ⟨hg1, hg2⟩ := hg
          go_wp2
          go_ret2
          exact ⟨⟨_, rfl⟩, rfl⟩
        · have xx : 1 ≤ x := by have := hxz.out; omega
          by_cases hgg : x < 4294967296
          all_goals
            by_cases hb2 : z + 4294967295 < 4294967296
            · go_wp2
              go_round
              case rel => exact ⟨x - 1, z + 4294967295, rfl, rfl, by omega, by omega, by omega, by omega, by have := hxz.out; unfold Hid; omega, by have := hxz.out; omega⟩
              case measure => simp [intOf]; omega
            · have fin := fin_p hi lo U L u0 u1 V _ (x - 1) h0 l0 l1 HU.out HL.out Hu0.out Hu1.out HV.out (by have := hxz.out; omega) (by have := hxz.out; omega)
              go_wp2
              go_ret2
              exact ⟨⟨_, rfl⟩, rfl⟩
    · by_cases hb : r + 4294967295 < 4294967296
      · go_wp2
        go_round
        case rel => exact ⟨q - 1, r + 4294967295, rfl, rfl, by have := hqr.out; omega, by omega, by omega, by omega, by have := hqr.out; unfold Hid; omega, by have := hqr.out; omega⟩
        case measure => simp [intOf]; have := hqr.out; omega
      · obtain ⟨V, hV⟩ : ∃ V, V = U * 4294967296 + u1 - (q - 1) * 18446744073709509356 := ⟨_, rfl⟩
        have V0 : 0 ≤ V := by have := hqr.out; omega
        have V1 : V < 18446744073709509356 := by have := hqr.out; omega
        have ev : IntKind.u64.wrap (IntKind.u64.wrap (IntKind.u64.wrap (U * 4294967296) + u1) - IntKind.u64.wrap ((q - 1) * 18446744073709509356)) = V := by simp only [IntKind.wrap_u64]; omega
        have HV := hd hV; clear hV
        go_wp2
        clear hq
        go_loop [18, 16] (fun a b => ∃ x z : Int, a = .int .u64 x ∧ b = .int .u64 z ∧ 0 ≤ x ∧ x ≤ 4294967298 ∧ 0 ≤ z ∧ z ≤ 4294967295 ∧ Hid (x * 4294967295 + z = V) ∧ V * 4294967296 + u0 < (x + 1) * 18446744073709509356) (fun a b => (intOf a).toNat)
        case atStart => exact ⟨V / 4294967295, V - V / 4294967295 * 4294967295, by go_num, by go_num, by omega, by omega, by omega, by omega, by unfold Hid; omega, by omega⟩
        case round =>
          obtain ⟨x, z, rfl, rfl, x0, x1, z0, z1, hxz, hx⟩ := hrel
          by_cases hg : x < 4294967296 ∧ x * 4294925036 ≤ 4294967296 * z + u0
          · have fin := fin_p hi lo U L u0 u1 V _ x h0 l0 l1 HU.out HL.out Hu0.out Hu1.out HV.out (by have := hxz.out; omega) (by have := hxz.out; omega)
            obtain ⟨hg1, hg2⟩ := hg
            go_wp2
            go_ret2
            exact ⟨⟨_, rfl⟩, rfl⟩
          · have xx : 1 ≤ x := by have := hxz.out; omega
            by_cases hgg : x < 4294967296
            all_goals
              by_cases hb2 : z + 4294967295 < 4294967296
              · go_wp2
                go_round
                case rel => exact ⟨x - 1, z + 4294967295, rfl, rfl, by omega, by omega, by omega, by omega, by have := hxz.out; unfold Hid; omega, by have := hxz.out; omega⟩
                case measure => simp [intOf]; omega
              · have fin := fin_p hi lo U L u0 u1 V _ (x - 1) h0 l0 l1 HU.out HL.out Hu0.out Hu1.out HV.out (by have := hxz.out; omega) (by have := hxz.out; omega)
                go_wp2
                go_ret2
                exact ⟨⟨_, rfl⟩, rfl⟩
end Go.Proofs.Ytlamdneheilahaa
