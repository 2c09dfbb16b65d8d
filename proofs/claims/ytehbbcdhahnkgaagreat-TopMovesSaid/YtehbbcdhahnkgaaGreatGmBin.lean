/- The ghost machine and the machine: arithmetic. -/
import Derived.Test.YtehbbcdhahnkgaaGreatGmOp
import Derived.Laws.Sem
set_option linter.unusedVariables false
set_option linter.unusedSimpArgs false
namespace Go.Proofs.YtehbbcdhahnkgaaGreat
open Go
section
variable (P : Program) (w : World)
theorem eqGuard_int (op : BinOp) (t : TypeId) (x y : Operand) (k k' : IntKind) (m n : Int) : (eqGuard op t x y (.int k m) (.int k' n)).run P w = .ok () w := by
 unfold eqGuard; split <;> simp
theorem ibeq (a b : Int) : (a == b) = decide (a = b) := by rw [Bool.eq_iff_iff]; simp
theorem eqGuard_str (op : BinOp) (t : TypeId) (x y : Operand) (m n : ByteArray) : (eqGuard op t x y (.string m) (.string n)).run P w = .ok () w := by
 unfold eqGuard; split <;> simp
theorem eqGuard_bool (op : BinOp) (t : TypeId) (x y : Operand) (m n : Bool) : (eqGuard op t x y (.bool m) (.bool n)).run P w = .ok () w := by
 unfold eqGuard; split <;> simp
end
section
variable (a b : UInt8)
theorem u8_add : IntKind.u8.wrap ((a.toNat : Int) + b.toNat) = ((a + b).toNat : Int) := (wrap_u8 _).trans (bv_add 8 a.toBitVec b.toBitVec)
theorem u8_sub : IntKind.u8.wrap ((a.toNat : Int) - b.toNat) = ((a - b).toNat : Int) := (wrap_u8 _).trans (bv_sub 8 a.toBitVec b.toBitVec)
theorem u8_mul : IntKind.u8.wrap ((a.toNat : Int) * b.toNat) = ((a * b).toNat : Int) := (wrap_u8 _).trans (bv_mul 8 a.toBitVec b.toBitVec)
theorem u8_quo : IntKind.u8.wrap ((a.toNat : Int).tdiv b.toNat) = ((a / b).toNat : Int) := (wrap_u8 _).trans (bv_div 8 a.toBitVec b.toBitVec)
theorem u8_rem : (a.toNat : Int).tmod b.toNat = ((a % b).toNat : Int) := bv_mod 8 a.toBitVec b.toBitVec
theorem u8_and : Op.intBits .and .u8 a.toNat b.toNat = pure (.int .u8 ((a &&& b).toNat : Int)) := by
 show pure (Value.int .u8 (IntKind.u8.wrap ((BitVec.ofInt 8 (a.toBitVec.toNat : Int) &&& BitVec.ofInt 8 (b.toBitVec.toNat : Int)).toNat : Int))) = _
 rw [bv_of, bv_of, wrap_u8, bv_self]
 rfl
theorem u8_or : Op.intBits .or .u8 a.toNat b.toNat = pure (.int .u8 ((a ||| b).toNat : Int)) := by
 show pure (Value.int .u8 (IntKind.u8.wrap ((BitVec.ofInt 8 (a.toBitVec.toNat : Int) ||| BitVec.ofInt 8 (b.toBitVec.toNat : Int)).toNat : Int))) = _
 rw [bv_of, bv_of, wrap_u8, bv_self]
 rfl
theorem u8_xor : Op.intBits .xor .u8 a.toNat b.toNat = pure (.int .u8 ((a ^^^ b).toNat : Int)) := by
 show pure (Value.int .u8 (IntKind.u8.wrap ((BitVec.ofInt 8 (a.toBitVec.toNat : Int) ^^^ BitVec.ofInt 8 (b.toBitVec.toNat : Int)).toNat : Int))) = _
 rw [bv_of, bv_of, wrap_u8, bv_self]
 rfl
theorem u8_andNot : Op.intBits .andNot .u8 a.toNat b.toNat = pure (.int .u8 ((a &&& ~~~ b).toNat : Int)) := by
 show pure (Value.int .u8 (IntKind.u8.wrap ((BitVec.ofInt 8 (a.toBitVec.toNat : Int) &&& ~~~ BitVec.ofInt 8 (b.toBitVec.toNat : Int)).toNat : Int))) = _
 rw [bv_of, bv_of, wrap_u8, bv_self]
 rfl
theorem u8_shl : ∀ m : Nat, IntKind.u8.wrap ((a.toNat : Int) * 2 ^ min m 8) = ((shl8 a m).toNat : Int) := fun m => (wrap_u8 _).trans (bv_shl 8 a.toBitVec m)
theorem u8_shr : ∀ m : Nat, (a.toNat : Int).fdiv (2 ^ min m 8) = ((shr8 a m).toNat : Int) := fun m => bv_shr 8 a.toBitVec m
theorem u8_neg : IntKind.u8.wrap (0 - (a.toNat : Int)) = ((0 - a).toNat : Int) := (wrap_u8 _).trans (bv_sub 8 0 a.toBitVec)
theorem u8_not : Op.intBits .xor .u8 (IntKind.u8.max) a.toNat = pure (.int .u8 ((~~~ a).toNat : Int)) := by
 show pure (Value.int .u8 (IntKind.u8.wrap ((BitVec.ofInt 8 (2 ^ 8 - 1) ^^^ BitVec.ofInt 8 (a.toBitVec.toNat : Int)).toNat : Int))) = _
 rw [bv_of, wrap_u8, bv_self]
 have e : BitVec.ofInt 8 (2 ^ 8 - 1) = BitVec.allOnes 8 := by decide
 rw [e, BitVec.allOnes_xor]
 rfl
theorem u8_ne : (b.toNat : Int) = 0 ↔ b = 0 := by rw [← UInt8.toNat_inj]; exact Int.natCast_eq_zero
theorem u8_eq : (a.toNat : Int) = b.toNat ↔ a = b := by rw [← UInt8.toNat_inj]; exact Int.natCast_inj
theorem u8_lt : (a.toNat : Int) < b.toNat ↔ a < b := by rw [UInt8.lt_iff_toNat_lt]; exact Int.ofNat_lt
theorem u8_le : (a.toNat : Int) ≤ b.toNat ↔ a ≤ b := by rw [UInt8.le_iff_toNat_le]; exact Int.ofNat_le
end
section
variable (a b : UInt16)
theorem u16_add : IntKind.u16.wrap ((a.toNat : Int) + b.toNat) = ((a + b).toNat : Int) := (wrap_u16 _).trans (bv_add 16 a.toBitVec b.toBitVec)
theorem u16_sub : IntKind.u16.wrap ((a.toNat : Int) - b.toNat) = ((a - b).toNat : Int) := (wrap_u16 _).trans (bv_sub 16 a.toBitVec b.toBitVec)
theorem u16_mul : IntKind.u16.wrap ((a.toNat : Int) * b.toNat) = ((a * b).toNat : Int) := (wrap_u16 _).trans (bv_mul 16 a.toBitVec b.toBitVec)
theorem u16_quo : IntKind.u16.wrap ((a.toNat : Int).tdiv b.toNat) = ((a / b).toNat : Int) := (wrap_u16 _).trans (bv_div 16 a.toBitVec b.toBitVec)
theorem u16_rem : (a.toNat : Int).tmod b.toNat = ((a % b).toNat : Int) := bv_mod 16 a.toBitVec b.toBitVec
theorem u16_and : Op.intBits .and .u16 a.toNat b.toNat = pure (.int .u16 ((a &&& b).toNat : Int)) := by
 show pure (Value.int .u16 (IntKind.u16.wrap ((BitVec.ofInt 16 (a.toBitVec.toNat : Int) &&& BitVec.ofInt 16 (b.toBitVec.toNat : Int)).toNat : Int))) = _
 rw [bv_of, bv_of, wrap_u16, bv_self]
 rfl
theorem u16_or : Op.intBits .or .u16 a.toNat b.toNat = pure (.int .u16 ((a ||| b).toNat : Int)) := by
 show pure (Value.int .u16 (IntKind.u16.wrap ((BitVec.ofInt 16 (a.toBitVec.toNat : Int) ||| BitVec.ofInt 16 (b.toBitVec.toNat : Int)).toNat : Int))) = _
 rw [bv_of, bv_of, wrap_u16, bv_self]
 rfl
theorem u16_xor : Op.intBits .xor .u16 a.toNat b.toNat = pure (.int .u16 ((a ^^^ b).toNat : Int)) := by
 show pure (Value.int .u16 (IntKind.u16.wrap ((BitVec.ofInt 16 (a.toBitVec.toNat : Int) ^^^ BitVec.ofInt 16 (b.toBitVec.toNat : Int)).toNat : Int))) = _
 rw [bv_of, bv_of, wrap_u16, bv_self]
 rfl
theorem u16_andNot : Op.intBits .andNot .u16 a.toNat b.toNat = pure (.int .u16 ((a &&& ~~~ b).toNat : Int)) := by
 show pure (Value.int .u16 (IntKind.u16.wrap ((BitVec.ofInt 16 (a.toBitVec.toNat : Int) &&& ~~~ BitVec.ofInt 16 (b.toBitVec.toNat : Int)).toNat : Int))) = _
 rw [bv_of, bv_of, wrap_u16, bv_self]
 rfl
theorem u16_shl : ∀ m : Nat, IntKind.u16.wrap ((a.toNat : Int) * 2 ^ min m 16) = ((shl16 a m).toNat : Int) := fun m => (wrap_u16 _).trans (bv_shl 16 a.toBitVec m)
theorem u16_shr : ∀ m : Nat, (a.toNat : Int).fdiv (2 ^ min m 16) = ((shr16 a m).toNat : Int) := fun m => bv_shr 16 a.toBitVec m
theorem u16_not : Op.intBits .xor .u16 (IntKind.u16.max) a.toNat = pure (.int .u16 ((~~~ a).toNat : Int)) := by
 show pure (Value.int .u16 (IntKind.u16.wrap ((BitVec.ofInt 16 (2 ^ 16 - 1) ^^^ BitVec.ofInt 16 (a.toBitVec.toNat : Int)).toNat : Int))) = _
 rw [bv_of, wrap_u16, bv_self]
 have e : BitVec.ofInt 16 (2 ^ 16 - 1) = BitVec.allOnes 16 := by decide
 rw [e, BitVec.allOnes_xor]
 rfl
theorem u16_ne : (b.toNat : Int) = 0 ↔ b = 0 := by rw [← UInt16.toNat_inj]; exact Int.natCast_eq_zero
theorem u16_eq : (a.toNat : Int) = b.toNat ↔ a = b := by rw [← UInt16.toNat_inj]; exact Int.natCast_inj
theorem u16_lt : (a.toNat : Int) < b.toNat ↔ a < b := by rw [UInt16.lt_iff_toNat_lt]; exact Int.ofNat_lt
theorem u16_le : (a.toNat : Int) ≤ b.toNat ↔ a ≤ b := by rw [UInt16.le_iff_toNat_le]; exact Int.ofNat_le
end
section
variable (a b : UInt32)
theorem u32_add : IntKind.u32.wrap ((a.toNat : Int) + b.toNat) = ((a + b).toNat : Int) := (wrap_u32 _).trans (bv_add 32 a.toBitVec b.toBitVec)
theorem u32_sub : IntKind.u32.wrap ((a.toNat : Int) - b.toNat) = ((a - b).toNat : Int) := (wrap_u32 _).trans (bv_sub 32 a.toBitVec b.toBitVec)
theorem u32_mul : IntKind.u32.wrap ((a.toNat : Int) * b.toNat) = ((a * b).toNat : Int) := (wrap_u32 _).trans (bv_mul 32 a.toBitVec b.toBitVec)
theorem u32_quo : IntKind.u32.wrap ((a.toNat : Int).tdiv b.toNat) = ((a / b).toNat : Int) := (wrap_u32 _).trans (bv_div 32 a.toBitVec b.toBitVec)
theorem u32_rem : (a.toNat : Int).tmod b.toNat = ((a % b).toNat : Int) := bv_mod 32 a.toBitVec b.toBitVec
theorem u32_and : Op.intBits .and .u32 a.toNat b.toNat = pure (.int .u32 ((a &&& b).toNat : Int)) := by
 show pure (Value.int .u32 (IntKind.u32.wrap ((BitVec.ofInt 32 (a.toBitVec.toNat : Int) &&& BitVec.ofInt 32 (b.toBitVec.toNat : Int)).toNat : Int))) = _
 rw [bv_of, bv_of, wrap_u32, bv_self]
 rfl
theorem u32_or : Op.intBits .or .u32 a.toNat b.toNat = pure (.int .u32 ((a ||| b).toNat : Int)) := by
 show pure (Value.int .u32 (IntKind.u32.wrap ((BitVec.ofInt 32 (a.toBitVec.toNat : Int) ||| BitVec.ofInt 32 (b.toBitVec.toNat : Int)).toNat : Int))) = _
 rw [bv_of, bv_of, wrap_u32, bv_self]
 rfl
theorem u32_xor : Op.intBits .xor .u32 a.toNat b.toNat = pure (.int .u32 ((a ^^^ b).toNat : Int)) := by
 show pure (Value.int .u32 (IntKind.u32.wrap ((BitVec.ofInt 32 (a.toBitVec.toNat : Int) ^^^ BitVec.ofInt 32 (b.toBitVec.toNat : Int)).toNat : Int))) = _
 rw [bv_of, bv_of, wrap_u32, bv_self]
 rfl
theorem u32_andNot : Op.intBits .andNot .u32 a.toNat b.toNat = pure (.int .u32 ((a &&& ~~~ b).toNat : Int)) := by
 show pure (Value.int .u32 (IntKind.u32.wrap ((BitVec.ofInt 32 (a.toBitVec.toNat : Int) &&& ~~~ BitVec.ofInt 32 (b.toBitVec.toNat : Int)).toNat : Int))) = _
 rw [bv_of, bv_of, wrap_u32, bv_self]
 rfl
theorem u32_shl : ∀ m : Nat, IntKind.u32.wrap ((a.toNat : Int) * 2 ^ min m 32) = ((shl32 a m).toNat : Int) := fun m => (wrap_u32 _).trans (bv_shl 32 a.toBitVec m)
theorem u32_shr : ∀ m : Nat, (a.toNat : Int).fdiv (2 ^ min m 32) = ((shr32 a m).toNat : Int) := fun m => bv_shr 32 a.toBitVec m
theorem u32_neg : IntKind.u32.wrap (0 - (a.toNat : Int)) = ((0 - a).toNat : Int) := (wrap_u32 _).trans (bv_sub 32 0 a.toBitVec)
theorem u32_not : Op.intBits .xor .u32 (IntKind.u32.max) a.toNat = pure (.int .u32 ((~~~ a).toNat : Int)) := by
 show pure (Value.int .u32 (IntKind.u32.wrap ((BitVec.ofInt 32 (2 ^ 32 - 1) ^^^ BitVec.ofInt 32 (a.toBitVec.toNat : Int)).toNat : Int))) = _
 rw [bv_of, wrap_u32, bv_self]
 have e : BitVec.ofInt 32 (2 ^ 32 - 1) = BitVec.allOnes 32 := by decide
 rw [e, BitVec.allOnes_xor]
 rfl
theorem u32_ne : (b.toNat : Int) = 0 ↔ b = 0 := by rw [← UInt32.toNat_inj]; exact Int.natCast_eq_zero
theorem u32_eq : (a.toNat : Int) = b.toNat ↔ a = b := by rw [← UInt32.toNat_inj]; exact Int.natCast_inj
theorem u32_lt : (a.toNat : Int) < b.toNat ↔ a < b := by rw [UInt32.lt_iff_toNat_lt]; exact Int.ofNat_lt
theorem u32_le : (a.toNat : Int) ≤ b.toNat ↔ a ≤ b := by rw [UInt32.le_iff_toNat_le]; exact Int.ofNat_le
end
section
variable (a b : UInt64)
theorem u64_add : IntKind.u64.wrap ((a.toNat : Int) + b.toNat) = ((a + b).toNat : Int) := (wrap_u64 _).trans (bv_add 64 a.toBitVec b.toBitVec)
theorem u64_sub : IntKind.u64.wrap ((a.toNat : Int) - b.toNat) = ((a - b).toNat : Int) := (wrap_u64 _).trans (bv_sub 64 a.toBitVec b.toBitVec)
theorem u64_mul : IntKind.u64.wrap ((a.toNat : Int) * b.toNat) = ((a * b).toNat : Int) := (wrap_u64 _).trans (bv_mul 64 a.toBitVec b.toBitVec)
theorem u64_quo : IntKind.u64.wrap ((a.toNat : Int).tdiv b.toNat) = ((a / b).toNat : Int) := (wrap_u64 _).trans (bv_div 64 a.toBitVec b.toBitVec)
theorem u64_rem : (a.toNat : Int).tmod b.toNat = ((a % b).toNat : Int) := bv_mod 64 a.toBitVec b.toBitVec
theorem u64_and : Op.intBits .and .u64 a.toNat b.toNat = pure (.int .u64 ((a &&& b).toNat : Int)) := by
 show pure (Value.int .u64 (IntKind.u64.wrap ((BitVec.ofInt 64 (a.toBitVec.toNat : Int) &&& BitVec.ofInt 64 (b.toBitVec.toNat : Int)).toNat : Int))) = _
 rw [bv_of, bv_of, wrap_u64, bv_self]
 rfl
theorem u64_or : Op.intBits .or .u64 a.toNat b.toNat = pure (.int .u64 ((a ||| b).toNat : Int)) := by
 show pure (Value.int .u64 (IntKind.u64.wrap ((BitVec.ofInt 64 (a.toBitVec.toNat : Int) ||| BitVec.ofInt 64 (b.toBitVec.toNat : Int)).toNat : Int))) = _
 rw [bv_of, bv_of, wrap_u64, bv_self]
 rfl
theorem u64_xor : Op.intBits .xor .u64 a.toNat b.toNat = pure (.int .u64 ((a ^^^ b).toNat : Int)) := by
 show pure (Value.int .u64 (IntKind.u64.wrap ((BitVec.ofInt 64 (a.toBitVec.toNat : Int) ^^^ BitVec.ofInt 64 (b.toBitVec.toNat : Int)).toNat : Int))) = _
 rw [bv_of, bv_of, wrap_u64, bv_self]
 rfl
theorem u64_andNot : Op.intBits .andNot .u64 a.toNat b.toNat = pure (.int .u64 ((a &&& ~~~ b).toNat : Int)) := by
 show pure (Value.int .u64 (IntKind.u64.wrap ((BitVec.ofInt 64 (a.toBitVec.toNat : Int) &&& ~~~ BitVec.ofInt 64 (b.toBitVec.toNat : Int)).toNat : Int))) = _
 rw [bv_of, bv_of, wrap_u64, bv_self]
 rfl
theorem u64_shl : ∀ m : Nat, IntKind.u64.wrap ((a.toNat : Int) * 2 ^ min m 64) = ((shl64 a m).toNat : Int) := fun m => (wrap_u64 _).trans (bv_shl 64 a.toBitVec m)
theorem u64_shr : ∀ m : Nat, (a.toNat : Int).fdiv (2 ^ min m 64) = ((shr64 a m).toNat : Int) := fun m => bv_shr 64 a.toBitVec m
theorem u64_neg : IntKind.u64.wrap (0 - (a.toNat : Int)) = ((0 - a).toNat : Int) := (wrap_u64 _).trans (bv_sub 64 0 a.toBitVec)
theorem u64_not : Op.intBits .xor .u64 (IntKind.u64.max) a.toNat = pure (.int .u64 ((~~~ a).toNat : Int)) := by
 show pure (Value.int .u64 (IntKind.u64.wrap ((BitVec.ofInt 64 (2 ^ 64 - 1) ^^^ BitVec.ofInt 64 (a.toBitVec.toNat : Int)).toNat : Int))) = _
 rw [bv_of, wrap_u64, bv_self]
 have e : BitVec.ofInt 64 (2 ^ 64 - 1) = BitVec.allOnes 64 := by decide
 rw [e, BitVec.allOnes_xor]
 rfl
theorem u64_ne : (b.toNat : Int) = 0 ↔ b = 0 := by rw [← UInt64.toNat_inj]; exact Int.natCast_eq_zero
theorem u64_eq : (a.toNat : Int) = b.toNat ↔ a = b := by rw [← UInt64.toNat_inj]; exact Int.natCast_inj
theorem u64_lt : (a.toNat : Int) < b.toNat ↔ a < b := by rw [UInt64.lt_iff_toNat_lt]; exact Int.ofNat_lt
theorem u64_le : (a.toNat : Int) ≤ b.toNat ↔ a ≤ b := by rw [UInt64.le_iff_toNat_le]; exact Int.ofNat_le
end
section
variable {P : Program} {U : Nat → Prop} {ob : Nat → Value} {Z : Nat → Prop} {s : GS} {w : World} {ws : List Wr} {k : SV → RT} {t : TypeId} {xo yo : Operand} {op : BinOp}
def BinOk (P : Program) (U : Nat → Prop) (ob : Nat → Value) (Z : Nat → Prop) (s : GS) (w : World) (ws : List Wr) (k : SV → RT) (c : Sem Value) : Prop :=
 ∃ r z, (k r).run s = some ws ∧ SR w Z ob r z ∧ r.ids U ∧ c.run P w = .ok z w
theorem binI64_ok {a b : Int} (ha : -9223372036854775808 ≤ a ∧ a ≤ 9223372036854775807) (hr : (binI64 op a b k).run s = some ws) :
  BinOk P U ob Z s w ws k (do eqGuard op t xo yo (.int .i64 a) (.int .i64 b); binOp op t (.int .i64 a) (.int .i64 b)) := by
 cases op <;> simp only [binI64] at hr
 case add => exact ⟨_, _, hr, sr_w64 _, trivial, by simp [eqGuard_int, binOp, Op.intArith, w64]⟩
 case sub => exact ⟨_, _, hr, sr_w64 _, trivial, by simp [eqGuard_int, binOp, Op.intArith, w64]⟩
 case mul => exact ⟨_, _, hr, sr_w64 _, trivial, by simp [eqGuard_int, binOp, Op.intArith, w64]⟩
 case quo =>
  obtain ⟨hb, hr⟩ := run_chk hr
  simp at hb
  exact ⟨_, _, hr, sr_w64 _, trivial, by simp [eqGuard_int, binOp, Op.intDiv, w64, hb]⟩
 case rem =>
  obtain ⟨hb, hr⟩ := run_chk hr
  simp at hb
  exact ⟨_, _, hr, sr_i64 (tmod_range a b ha.1 ha.2).1 (tmod_range a b ha.1 ha.2).2, trivial, by simp [eqGuard_int, binOp, Op.intDiv, hb]⟩
 case and => exact ⟨_, _, hr, sr_w64 _, trivial, by simp [eqGuard_int, binOp, Op.intBits, w64]; rfl⟩
 case or => exact ⟨_, _, hr, sr_w64 _, trivial, by simp [eqGuard_int, binOp, Op.intBits, w64]; rfl⟩
 case xor => exact ⟨_, _, hr, sr_w64 _, trivial, by simp [eqGuard_int, binOp, Op.intBits, w64]; rfl⟩
 case andNot => exact ⟨_, _, hr, sr_w64 _, trivial, by simp [eqGuard_int, binOp, Op.intBits, w64]; rfl⟩
 case eql => exact ⟨_, _, hr, sr_bool _, trivial, by simp [eqGuard_int, binOp, Op.intCmp, ibeq]⟩
 case neq => exact ⟨_, _, hr, sr_bool _, trivial, by simp [eqGuard_int, binOp, Op.intCmp, bne, ibeq]⟩
 case lss => exact ⟨_, _, hr, sr_bool _, trivial, by simp [eqGuard_int, binOp, Op.intCmp]⟩
 case leq => exact ⟨_, _, hr, sr_bool _, trivial, by simp [eqGuard_int, binOp, Op.intCmp]⟩
 case gtr => exact ⟨_, _, hr, sr_bool _, trivial, by simp [eqGuard_int, binOp, Op.intCmp]⟩
 case geq => exact ⟨_, _, hr, sr_bool _, trivial, by simp [eqGuard_int, binOp, Op.intCmp]⟩
 all_goals exact run_fail hr
theorem binU8_ok {a b : UInt8} (hr : (binU8 op a b k).run s = some ws) :
  BinOk P U ob Z s w ws k (do eqGuard op t xo yo (.int .u8 a.toNat) (.int .u8 b.toNat); binOp op t (.int .u8 a.toNat) (.int .u8 b.toNat)) := by
 cases op <;> simp only [binU8] at hr
 case add => exact ⟨_, _, hr, sr_u8 _, trivial, by simp only [Sem.run_bind, eqGuard_int, Result.andThen_ok, binOp, Op.intArith, ne_eq, not_true_eq_false, if_false, Sem.run_pure, u8_add]⟩
 case sub => exact ⟨_, _, hr, sr_u8 _, trivial, by simp only [Sem.run_bind, eqGuard_int, Result.andThen_ok, binOp, Op.intArith, ne_eq, not_true_eq_false, if_false, Sem.run_pure, u8_sub]⟩
 case mul => exact ⟨_, _, hr, sr_u8 _, trivial, by simp only [Sem.run_bind, eqGuard_int, Result.andThen_ok, binOp, Op.intArith, ne_eq, not_true_eq_false, if_false, Sem.run_pure, u8_mul]⟩
 case quo =>
  obtain ⟨hb, hr⟩ := run_chk hr
  have hb' : ¬ (b.toNat : Int) = 0 := fun e => by rw [u8_ne] at e; simp [e] at hb
  exact ⟨_, _, hr, sr_u8 _, trivial, by simp only [Sem.run_bind, eqGuard_int, Result.andThen_ok, binOp, Op.intDiv, ne_eq, not_true_eq_false, if_false, if_neg hb', Sem.run_pure, u8_quo]⟩
 case rem =>
  obtain ⟨hb, hr⟩ := run_chk hr
  have hb' : ¬ (b.toNat : Int) = 0 := fun e => by rw [u8_ne] at e; simp [e] at hb
  exact ⟨_, _, hr, sr_u8 _, trivial, by simp only [Sem.run_bind, eqGuard_int, Result.andThen_ok, binOp, Op.intDiv, ne_eq, not_true_eq_false, if_false, if_neg hb', Sem.run_pure, u8_rem]⟩
 case and => exact ⟨_, _, hr, sr_u8 _, trivial, by simp only [Sem.run_bind, eqGuard_int, Result.andThen_ok, binOp, ne_eq, not_true_eq_false, if_false, u8_and, Sem.run_pure]⟩
 case or => exact ⟨_, _, hr, sr_u8 _, trivial, by simp only [Sem.run_bind, eqGuard_int, Result.andThen_ok, binOp, ne_eq, not_true_eq_false, if_false, u8_or, Sem.run_pure]⟩
 case xor => exact ⟨_, _, hr, sr_u8 _, trivial, by simp only [Sem.run_bind, eqGuard_int, Result.andThen_ok, binOp, ne_eq, not_true_eq_false, if_false, u8_xor, Sem.run_pure]⟩
 case andNot => exact ⟨_, _, hr, sr_u8 _, trivial, by simp only [Sem.run_bind, eqGuard_int, Result.andThen_ok, binOp, ne_eq, not_true_eq_false, if_false, u8_andNot, Sem.run_pure]⟩
 case eql => exact ⟨_, _, hr, sr_bool _, trivial, by simp only [Sem.run_bind, eqGuard_int, Result.andThen_ok, binOp, Op.intCmp, ne_eq, not_true_eq_false, if_false, Sem.run_pure, u8_eq, ibeq]⟩
 case neq => exact ⟨_, _, hr, sr_bool _, trivial, by simp only [Sem.run_bind, eqGuard_int, Result.andThen_ok, binOp, Op.intCmp, ne_eq, not_true_eq_false, if_false, Sem.run_pure, u8_eq, bne, ibeq]⟩
 case lss => exact ⟨_, _, hr, sr_bool _, trivial, by simp only [Sem.run_bind, eqGuard_int, Result.andThen_ok, binOp, Op.intCmp, ne_eq, not_true_eq_false, if_false, Sem.run_pure, u8_lt, gt_iff_lt, ge_iff_le]⟩
 case leq => exact ⟨_, _, hr, sr_bool _, trivial, by simp only [Sem.run_bind, eqGuard_int, Result.andThen_ok, binOp, Op.intCmp, ne_eq, not_true_eq_false, if_false, Sem.run_pure, u8_le, gt_iff_lt, ge_iff_le]⟩
 case gtr => exact ⟨_, _, hr, sr_bool _, trivial, by simp only [Sem.run_bind, eqGuard_int, Result.andThen_ok, binOp, Op.intCmp, ne_eq, not_true_eq_false, if_false, Sem.run_pure, u8_lt, gt_iff_lt, ge_iff_le]⟩
 case geq => exact ⟨_, _, hr, sr_bool _, trivial, by simp only [Sem.run_bind, eqGuard_int, Result.andThen_ok, binOp, Op.intCmp, ne_eq, not_true_eq_false, if_false, Sem.run_pure, u8_le, gt_iff_lt, ge_iff_le]⟩
 all_goals exact run_fail hr
theorem binU16_ok {a b : UInt16} (hr : (binU16 op a b k).run s = some ws) :
  BinOk P U ob Z s w ws k (do eqGuard op t xo yo (.int .u16 a.toNat) (.int .u16 b.toNat); binOp op t (.int .u16 a.toNat) (.int .u16 b.toNat)) := by
 cases op <;> simp only [binU16] at hr
 case add => exact ⟨_, _, hr, sr_u16 _, trivial, by simp only [Sem.run_bind, eqGuard_int, Result.andThen_ok, binOp, Op.intArith, ne_eq, not_true_eq_false, if_false, Sem.run_pure, u16_add]⟩
 case sub => exact ⟨_, _, hr, sr_u16 _, trivial, by simp only [Sem.run_bind, eqGuard_int, Result.andThen_ok, binOp, Op.intArith, ne_eq, not_true_eq_false, if_false, Sem.run_pure, u16_sub]⟩
 case mul => exact ⟨_, _, hr, sr_u16 _, trivial, by simp only [Sem.run_bind, eqGuard_int, Result.andThen_ok, binOp, Op.intArith, ne_eq, not_true_eq_false, if_false, Sem.run_pure, u16_mul]⟩
 case quo =>
  obtain ⟨hb, hr⟩ := run_chk hr
  have hb' : ¬ (b.toNat : Int) = 0 := fun e => by rw [u16_ne] at e; simp [e] at hb
  exact ⟨_, _, hr, sr_u16 _, trivial, by simp only [Sem.run_bind, eqGuard_int, Result.andThen_ok, binOp, Op.intDiv, ne_eq, not_true_eq_false, if_false, if_neg hb', Sem.run_pure, u16_quo]⟩
 case rem =>
  obtain ⟨hb, hr⟩ := run_chk hr
  have hb' : ¬ (b.toNat : Int) = 0 := fun e => by rw [u16_ne] at e; simp [e] at hb
  exact ⟨_, _, hr, sr_u16 _, trivial, by simp only [Sem.run_bind, eqGuard_int, Result.andThen_ok, binOp, Op.intDiv, ne_eq, not_true_eq_false, if_false, if_neg hb', Sem.run_pure, u16_rem]⟩
 case and => exact ⟨_, _, hr, sr_u16 _, trivial, by simp only [Sem.run_bind, eqGuard_int, Result.andThen_ok, binOp, ne_eq, not_true_eq_false, if_false, u16_and, Sem.run_pure]⟩
 case or => exact ⟨_, _, hr, sr_u16 _, trivial, by simp only [Sem.run_bind, eqGuard_int, Result.andThen_ok, binOp, ne_eq, not_true_eq_false, if_false, u16_or, Sem.run_pure]⟩
 case xor => exact ⟨_, _, hr, sr_u16 _, trivial, by simp only [Sem.run_bind, eqGuard_int, Result.andThen_ok, binOp, ne_eq, not_true_eq_false, if_false, u16_xor, Sem.run_pure]⟩
 case andNot => exact ⟨_, _, hr, sr_u16 _, trivial, by simp only [Sem.run_bind, eqGuard_int, Result.andThen_ok, binOp, ne_eq, not_true_eq_false, if_false, u16_andNot, Sem.run_pure]⟩
 case eql => exact ⟨_, _, hr, sr_bool _, trivial, by simp only [Sem.run_bind, eqGuard_int, Result.andThen_ok, binOp, Op.intCmp, ne_eq, not_true_eq_false, if_false, Sem.run_pure, u16_eq, ibeq]⟩
 case neq => exact ⟨_, _, hr, sr_bool _, trivial, by simp only [Sem.run_bind, eqGuard_int, Result.andThen_ok, binOp, Op.intCmp, ne_eq, not_true_eq_false, if_false, Sem.run_pure, u16_eq, bne, ibeq]⟩
 case lss => exact ⟨_, _, hr, sr_bool _, trivial, by simp only [Sem.run_bind, eqGuard_int, Result.andThen_ok, binOp, Op.intCmp, ne_eq, not_true_eq_false, if_false, Sem.run_pure, u16_lt, gt_iff_lt, ge_iff_le]⟩
 case leq => exact ⟨_, _, hr, sr_bool _, trivial, by simp only [Sem.run_bind, eqGuard_int, Result.andThen_ok, binOp, Op.intCmp, ne_eq, not_true_eq_false, if_false, Sem.run_pure, u16_le, gt_iff_lt, ge_iff_le]⟩
 case gtr => exact ⟨_, _, hr, sr_bool _, trivial, by simp only [Sem.run_bind, eqGuard_int, Result.andThen_ok, binOp, Op.intCmp, ne_eq, not_true_eq_false, if_false, Sem.run_pure, u16_lt, gt_iff_lt, ge_iff_le]⟩
 case geq => exact ⟨_, _, hr, sr_bool _, trivial, by simp only [Sem.run_bind, eqGuard_int, Result.andThen_ok, binOp, Op.intCmp, ne_eq, not_true_eq_false, if_false, Sem.run_pure, u16_le, gt_iff_lt, ge_iff_le]⟩
 all_goals exact run_fail hr
theorem binU32_ok {a b : UInt32} (hr : (binU32 op a b k).run s = some ws) :
  BinOk P U ob Z s w ws k (do eqGuard op t xo yo (.int .u32 a.toNat) (.int .u32 b.toNat); binOp op t (.int .u32 a.toNat) (.int .u32 b.toNat)) := by
 cases op <;> simp only [binU32] at hr
 case add => exact ⟨_, _, hr, sr_u32 _, trivial, by simp only [Sem.run_bind, eqGuard_int, Result.andThen_ok, binOp, Op.intArith, ne_eq, not_true_eq_false, if_false, Sem.run_pure, u32_add]⟩
 case sub => exact ⟨_, _, hr, sr_u32 _, trivial, by simp only [Sem.run_bind, eqGuard_int, Result.andThen_ok, binOp, Op.intArith, ne_eq, not_true_eq_false, if_false, Sem.run_pure, u32_sub]⟩
 case mul => exact ⟨_, _, hr, sr_u32 _, trivial, by simp only [Sem.run_bind, eqGuard_int, Result.andThen_ok, binOp, Op.intArith, ne_eq, not_true_eq_false, if_false, Sem.run_pure, u32_mul]⟩
 case quo =>
  obtain ⟨hb, hr⟩ := run_chk hr
  have hb' : ¬ (b.toNat : Int) = 0 := fun e => by rw [u32_ne] at e; simp [e] at hb
  exact ⟨_, _, hr, sr_u32 _, trivial, by simp only [Sem.run_bind, eqGuard_int, Result.andThen_ok, binOp, Op.intDiv, ne_eq, not_true_eq_false, if_false, if_neg hb', Sem.run_pure, u32_quo]⟩
 case rem =>
  obtain ⟨hb, hr⟩ := run_chk hr
  have hb' : ¬ (b.toNat : Int) = 0 := fun e => by rw [u32_ne] at e; simp [e] at hb
  exact ⟨_, _, hr, sr_u32 _, trivial, by simp only [Sem.run_bind, eqGuard_int, Result.andThen_ok, binOp, Op.intDiv, ne_eq, not_true_eq_false, if_false, if_neg hb', Sem.run_pure, u32_rem]⟩
 case and => exact ⟨_, _, hr, sr_u32 _, trivial, by simp only [Sem.run_bind, eqGuard_int, Result.andThen_ok, binOp, ne_eq, not_true_eq_false, if_false, u32_and, Sem.run_pure]⟩
 case or => exact ⟨_, _, hr, sr_u32 _, trivial, by simp only [Sem.run_bind, eqGuard_int, Result.andThen_ok, binOp, ne_eq, not_true_eq_false, if_false, u32_or, Sem.run_pure]⟩
 case xor => exact ⟨_, _, hr, sr_u32 _, trivial, by simp only [Sem.run_bind, eqGuard_int, Result.andThen_ok, binOp, ne_eq, not_true_eq_false, if_false, u32_xor, Sem.run_pure]⟩
 case andNot => exact ⟨_, _, hr, sr_u32 _, trivial, by simp only [Sem.run_bind, eqGuard_int, Result.andThen_ok, binOp, ne_eq, not_true_eq_false, if_false, u32_andNot, Sem.run_pure]⟩
 case eql => exact ⟨_, _, hr, sr_bool _, trivial, by simp only [Sem.run_bind, eqGuard_int, Result.andThen_ok, binOp, Op.intCmp, ne_eq, not_true_eq_false, if_false, Sem.run_pure, u32_eq, ibeq]⟩
 case neq => exact ⟨_, _, hr, sr_bool _, trivial, by simp only [Sem.run_bind, eqGuard_int, Result.andThen_ok, binOp, Op.intCmp, ne_eq, not_true_eq_false, if_false, Sem.run_pure, u32_eq, bne, ibeq]⟩
 case lss => exact ⟨_, _, hr, sr_bool _, trivial, by simp only [Sem.run_bind, eqGuard_int, Result.andThen_ok, binOp, Op.intCmp, ne_eq, not_true_eq_false, if_false, Sem.run_pure, u32_lt, gt_iff_lt, ge_iff_le]⟩
 case leq => exact ⟨_, _, hr, sr_bool _, trivial, by simp only [Sem.run_bind, eqGuard_int, Result.andThen_ok, binOp, Op.intCmp, ne_eq, not_true_eq_false, if_false, Sem.run_pure, u32_le, gt_iff_lt, ge_iff_le]⟩
 case gtr => exact ⟨_, _, hr, sr_bool _, trivial, by simp only [Sem.run_bind, eqGuard_int, Result.andThen_ok, binOp, Op.intCmp, ne_eq, not_true_eq_false, if_false, Sem.run_pure, u32_lt, gt_iff_lt, ge_iff_le]⟩
 case geq => exact ⟨_, _, hr, sr_bool _, trivial, by simp only [Sem.run_bind, eqGuard_int, Result.andThen_ok, binOp, Op.intCmp, ne_eq, not_true_eq_false, if_false, Sem.run_pure, u32_le, gt_iff_lt, ge_iff_le]⟩
 all_goals exact run_fail hr
theorem binU64_ok {a b : UInt64} (hr : (binU64 op a b k).run s = some ws) :
  BinOk P U ob Z s w ws k (do eqGuard op t xo yo (.int .u64 a.toNat) (.int .u64 b.toNat); binOp op t (.int .u64 a.toNat) (.int .u64 b.toNat)) := by
 cases op <;> simp only [binU64] at hr
 case add => exact ⟨_, _, hr, sr_u64 _, trivial, by simp only [Sem.run_bind, eqGuard_int, Result.andThen_ok, binOp, Op.intArith, ne_eq, not_true_eq_false, if_false, Sem.run_pure, u64_add]⟩
 case sub => exact ⟨_, _, hr, sr_u64 _, trivial, by simp only [Sem.run_bind, eqGuard_int, Result.andThen_ok, binOp, Op.intArith, ne_eq, not_true_eq_false, if_false, Sem.run_pure, u64_sub]⟩
 case mul => exact ⟨_, _, hr, sr_u64 _, trivial, by simp only [Sem.run_bind, eqGuard_int, Result.andThen_ok, binOp, Op.intArith, ne_eq, not_true_eq_false, if_false, Sem.run_pure, u64_mul]⟩
 case quo =>
  obtain ⟨hb, hr⟩ := run_chk hr
  have hb' : ¬ (b.toNat : Int) = 0 := fun e => by rw [u64_ne] at e; simp [e] at hb
  exact ⟨_, _, hr, sr_u64 _, trivial, by simp only [Sem.run_bind, eqGuard_int, Result.andThen_ok, binOp, Op.intDiv, ne_eq, not_true_eq_false, if_false, if_neg hb', Sem.run_pure, u64_quo]⟩
 case rem =>
  obtain ⟨hb, hr⟩ := run_chk hr
  have hb' : ¬ (b.toNat : Int) = 0 := fun e => by rw [u64_ne] at e; simp [e] at hb
  exact ⟨_, _, hr, sr_u64 _, trivial, by simp only [Sem.run_bind, eqGuard_int, Result.andThen_ok, binOp, Op.intDiv, ne_eq, not_true_eq_false, if_false, if_neg hb', Sem.run_pure, u64_rem]⟩
 case and => exact ⟨_, _, hr, sr_u64 _, trivial, by simp only [Sem.run_bind, eqGuard_int, Result.andThen_ok, binOp, ne_eq, not_true_eq_false, if_false, u64_and, Sem.run_pure]⟩
 case or => exact ⟨_, _, hr, sr_u64 _, trivial, by simp only [Sem.run_bind, eqGuard_int, Result.andThen_ok, binOp, ne_eq, not_true_eq_false, if_false, u64_or, Sem.run_pure]⟩
 case xor => exact ⟨_, _, hr, sr_u64 _, trivial, by simp only [Sem.run_bind, eqGuard_int, Result.andThen_ok, binOp, ne_eq, not_true_eq_false, if_false, u64_xor, Sem.run_pure]⟩
 case andNot => exact ⟨_, _, hr, sr_u64 _, trivial, by simp only [Sem.run_bind, eqGuard_int, Result.andThen_ok, binOp, ne_eq, not_true_eq_false, if_false, u64_andNot, Sem.run_pure]⟩
 case eql => exact ⟨_, _, hr, sr_bool _, trivial, by simp only [Sem.run_bind, eqGuard_int, Result.andThen_ok, binOp, Op.intCmp, ne_eq, not_true_eq_false, if_false, Sem.run_pure, u64_eq, ibeq]⟩
 case neq => exact ⟨_, _, hr, sr_bool _, trivial, by simp only [Sem.run_bind, eqGuard_int, Result.andThen_ok, binOp, Op.intCmp, ne_eq, not_true_eq_false, if_false, Sem.run_pure, u64_eq, bne, ibeq]⟩
 case lss => exact ⟨_, _, hr, sr_bool _, trivial, by simp only [Sem.run_bind, eqGuard_int, Result.andThen_ok, binOp, Op.intCmp, ne_eq, not_true_eq_false, if_false, Sem.run_pure, u64_lt, gt_iff_lt, ge_iff_le]⟩
 case leq => exact ⟨_, _, hr, sr_bool _, trivial, by simp only [Sem.run_bind, eqGuard_int, Result.andThen_ok, binOp, Op.intCmp, ne_eq, not_true_eq_false, if_false, Sem.run_pure, u64_le, gt_iff_lt, ge_iff_le]⟩
 case gtr => exact ⟨_, _, hr, sr_bool _, trivial, by simp only [Sem.run_bind, eqGuard_int, Result.andThen_ok, binOp, Op.intCmp, ne_eq, not_true_eq_false, if_false, Sem.run_pure, u64_lt, gt_iff_lt, ge_iff_le]⟩
 case geq => exact ⟨_, _, hr, sr_bool _, trivial, by simp only [Sem.run_bind, eqGuard_int, Result.andThen_ok, binOp, Op.intCmp, ne_eq, not_true_eq_false, if_false, Sem.run_pure, u64_le, gt_iff_lt, ge_iff_le]⟩
 all_goals exact run_fail hr
end
end Go.Proofs.YtehbbcdhahnkgaaGreat
