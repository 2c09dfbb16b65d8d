/- The ghost machine and the machine: arithmetic. -/
import Derived.Test.YtajpblfinenmjaaGreatDoorGmOp
import Derived.Laws.Sem
set_option linter.unusedVariables false
set_option linter.unusedSimpArgs false
namespace Go.Proofs.YtajpblfinenmjaaGreatDoor
open Go
section
variable (P : Program) (w : World)
theorem zw5 (op : BinOp) (t : TypeId) (x y : Operand) (k k' : IntKind) (m n : Int) : (eqGuard op t x y (.int k m) (.int k' n)).run P w = .ok () w := by
 unfold eqGuard; split <;> simp
theorem ibeq (a b : Int) : (a == b) = decide (a = b) := by rw [Bool.eq_iff_iff]; simp
theorem zw6s (op : BinOp) (t : TypeId) (x y : Operand) (m n : ByteArray) : (eqGuard op t x y (.string m) (.string n)).run P w = .ok () w := by
 unfold eqGuard; split <;> simp
theorem zw6t (op : BinOp) (t : TypeId) (x y : Operand) (m n : Bool) : (eqGuard op t x y (.bool m) (.bool n)).run P w = .ok () w := by
 unfold eqGuard; split <;> simp
end
section
variable (a b : UInt8)
theorem u8_add : IntKind.u8.wrap ((a.toNat : Int) + b.toNat) = ((a + b).toNat : Int) := (zwr _).trans (bv_add 8 a.toBitVec b.toBitVec)
theorem u8_sub : IntKind.u8.wrap ((a.toNat : Int) - b.toNat) = ((a - b).toNat : Int) := (zwr _).trans (bv_sub 8 a.toBitVec b.toBitVec)
theorem u8_mul : IntKind.u8.wrap ((a.toNat : Int) * b.toNat) = ((a * b).toNat : Int) := (zwr _).trans (bv_mul 8 a.toBitVec b.toBitVec)
theorem u8_quo : IntKind.u8.wrap ((a.toNat : Int).tdiv b.toNat) = ((a / b).toNat : Int) := (zwr _).trans (bv_div 8 a.toBitVec b.toBitVec)
theorem u8_rem : (a.toNat : Int).tmod b.toNat = ((a % b).toNat : Int) := bv_mod 8 a.toBitVec b.toBitVec
theorem u8_and : Op.intBits .and .u8 a.toNat b.toNat = pure (.int .u8 ((a &&& b).toNat : Int)) := by
 show pure (Value.int .u8 (IntKind.u8.wrap ((BitVec.ofInt 8 (a.toBitVec.toNat : Int) &&& BitVec.ofInt 8 (b.toBitVec.toNat : Int)).toNat : Int))) = _
 rw [bv_of, bv_of, zwr, zwk]
 rfl
theorem u8_or : Op.intBits .or .u8 a.toNat b.toNat = pure (.int .u8 ((a ||| b).toNat : Int)) := by
 show pure (Value.int .u8 (IntKind.u8.wrap ((BitVec.ofInt 8 (a.toBitVec.toNat : Int) ||| BitVec.ofInt 8 (b.toBitVec.toNat : Int)).toNat : Int))) = _
 rw [bv_of, bv_of, zwr, zwk]
 rfl
theorem u8_xor : Op.intBits .xor .u8 a.toNat b.toNat = pure (.int .u8 ((a ^^^ b).toNat : Int)) := by
 show pure (Value.int .u8 (IntKind.u8.wrap ((BitVec.ofInt 8 (a.toBitVec.toNat : Int) ^^^ BitVec.ofInt 8 (b.toBitVec.toNat : Int)).toNat : Int))) = _
 rw [bv_of, bv_of, zwr, zwk]
 rfl
theorem zwc2 : Op.intBits .andNot .u8 a.toNat b.toNat = pure (.int .u8 ((a &&& ~~~ b).toNat : Int)) := by
 show pure (Value.int .u8 (IntKind.u8.wrap ((BitVec.ofInt 8 (a.toBitVec.toNat : Int) &&& ~~~ BitVec.ofInt 8 (b.toBitVec.toNat : Int)).toNat : Int))) = _
 rw [bv_of, bv_of, zwr, zwk]
 rfl
theorem u8_shl : ∀ m : Nat, IntKind.u8.wrap ((a.toNat : Int) * 2 ^ min m 8) = ((shl8 a m).toNat : Int) := fun m => (zwr _).trans (bv_shl 8 a.toBitVec m)
theorem u8_shr : ∀ m : Nat, (a.toNat : Int).fdiv (2 ^ min m 8) = ((shr8 a m).toNat : Int) := fun m => bv_shr 8 a.toBitVec m
theorem u8_neg : IntKind.u8.wrap (0 - (a.toNat : Int)) = ((0 - a).toNat : Int) := (zwr _).trans (bv_sub 8 0 a.toBitVec)
theorem u8_not : Op.intBits .xor .u8 (IntKind.u8.max) a.toNat = pure (.int .u8 ((~~~ a).toNat : Int)) := by
 show pure (Value.int .u8 (IntKind.u8.wrap ((BitVec.ofInt 8 (2 ^ 8 - 1) ^^^ BitVec.ofInt 8 (a.toBitVec.toNat : Int)).toNat : Int))) = _
 rw [bv_of, zwr, zwk]
 have e : BitVec.ofInt 8 (2 ^ 8 - 1) = BitVec.allOnes 8 := by decide
 rw [e, BitVec.allOnes_xor]
 rfl
theorem u8_ne : (b.toNat : Int) = 0 ↔ b = 0 := by rw [← UInt8.toNat_inj]; exact Int.natCast_eq_zero
theorem u8_eq : (a.toNat : Int) = b.toNat ↔ a = b := by rw [← UInt8.toNat_inj]; exact Int.natCast_inj
theorem u8_lt : (a.toNat : Int) < b.toNat ↔ a < b := by rw [UInt8.lt_iff_toNat_lt]; exact Int.ofNat_lt
theorem u8_le : (a.toNat : Int) ≤ b.toNat ↔ a ≤ b := by rw [UInt8.le_iff_toNat_le]; exact Int.ofNat_le
end
section
variable (a b : UInt16)
theorem zwc3 : IntKind.u16.wrap ((a.toNat : Int) + b.toNat) = ((a + b).toNat : Int) := (zwx _).trans (bv_add 16 a.toBitVec b.toBitVec)
theorem zwc4 : IntKind.u16.wrap ((a.toNat : Int) - b.toNat) = ((a - b).toNat : Int) := (zwx _).trans (bv_sub 16 a.toBitVec b.toBitVec)
theorem zwc5 : IntKind.u16.wrap ((a.toNat : Int) * b.toNat) = ((a * b).toNat : Int) := (zwx _).trans (bv_mul 16 a.toBitVec b.toBitVec)
theorem zwc6 : IntKind.u16.wrap ((a.toNat : Int).tdiv b.toNat) = ((a / b).toNat : Int) := (zwx _).trans (bv_div 16 a.toBitVec b.toBitVec)
theorem zwc7 : (a.toNat : Int).tmod b.toNat = ((a % b).toNat : Int) := bv_mod 16 a.toBitVec b.toBitVec
theorem zwc8 : Op.intBits .and .u16 a.toNat b.toNat = pure (.int .u16 ((a &&& b).toNat : Int)) := by
 show pure (Value.int .u16 (IntKind.u16.wrap ((BitVec.ofInt 16 (a.toBitVec.toNat : Int) &&& BitVec.ofInt 16 (b.toBitVec.toNat : Int)).toNat : Int))) = _
 rw [bv_of, bv_of, zwx, zwk]
 rfl
theorem u16_or : Op.intBits .or .u16 a.toNat b.toNat = pure (.int .u16 ((a ||| b).toNat : Int)) := by
 show pure (Value.int .u16 (IntKind.u16.wrap ((BitVec.ofInt 16 (a.toBitVec.toNat : Int) ||| BitVec.ofInt 16 (b.toBitVec.toNat : Int)).toNat : Int))) = _
 rw [bv_of, bv_of, zwx, zwk]
 rfl
theorem zwc9 : Op.intBits .xor .u16 a.toNat b.toNat = pure (.int .u16 ((a ^^^ b).toNat : Int)) := by
 show pure (Value.int .u16 (IntKind.u16.wrap ((BitVec.ofInt 16 (a.toBitVec.toNat : Int) ^^^ BitVec.ofInt 16 (b.toBitVec.toNat : Int)).toNat : Int))) = _
 rw [bv_of, bv_of, zwx, zwk]
 rfl
theorem zwca : Op.intBits .andNot .u16 a.toNat b.toNat = pure (.int .u16 ((a &&& ~~~ b).toNat : Int)) := by
 show pure (Value.int .u16 (IntKind.u16.wrap ((BitVec.ofInt 16 (a.toBitVec.toNat : Int) &&& ~~~ BitVec.ofInt 16 (b.toBitVec.toNat : Int)).toNat : Int))) = _
 rw [bv_of, bv_of, zwx, zwk]
 rfl
theorem zwcb : ∀ m : Nat, IntKind.u16.wrap ((a.toNat : Int) * 2 ^ min m 16) = ((shl16 a m).toNat : Int) := fun m => (zwx _).trans (bv_shl 16 a.toBitVec m)
theorem zwcc : ∀ m : Nat, (a.toNat : Int).fdiv (2 ^ min m 16) = ((shr16 a m).toNat : Int) := fun m => bv_shr 16 a.toBitVec m
theorem zwcd : Op.intBits .xor .u16 (IntKind.u16.max) a.toNat = pure (.int .u16 ((~~~ a).toNat : Int)) := by
 show pure (Value.int .u16 (IntKind.u16.wrap ((BitVec.ofInt 16 (2 ^ 16 - 1) ^^^ BitVec.ofInt 16 (a.toBitVec.toNat : Int)).toNat : Int))) = _
 rw [bv_of, zwx, zwk]
 have e : BitVec.ofInt 16 (2 ^ 16 - 1) = BitVec.allOnes 16 := by decide
 rw [e, BitVec.allOnes_xor]
 rfl
theorem u16_ne : (b.toNat : Int) = 0 ↔ b = 0 := by rw [← UInt16.toNat_inj]; exact Int.natCast_eq_zero
theorem u16_eq : (a.toNat : Int) = b.toNat ↔ a = b := by rw [← UInt16.toNat_inj]; exact Int.natCast_inj
theorem u16_lt : (a.toNat : Int) < b.toNat ↔ a < b := by rw [UInt16.lt_iff_toNat_lt]; exact Int.ofNat_lt
theorem u16_le : (a.toNat : Int) ≤ b.toNat ↔ a ≤ b := by rw [UInt16.le_iff_toNat_le]; exact Int.ofNat_le
end
section
variable (a b : UInt32)
theorem zwce : IntKind.u32.wrap ((a.toNat : Int) + b.toNat) = ((a + b).toNat : Int) := (zws _).trans (bv_add 32 a.toBitVec b.toBitVec)
theorem zwcf : IntKind.u32.wrap ((a.toNat : Int) - b.toNat) = ((a - b).toNat : Int) := (zws _).trans (bv_sub 32 a.toBitVec b.toBitVec)
theorem zwcg : IntKind.u32.wrap ((a.toNat : Int) * b.toNat) = ((a * b).toNat : Int) := (zws _).trans (bv_mul 32 a.toBitVec b.toBitVec)
theorem zwch : IntKind.u32.wrap ((a.toNat : Int).tdiv b.toNat) = ((a / b).toNat : Int) := (zws _).trans (bv_div 32 a.toBitVec b.toBitVec)
theorem zwci : (a.toNat : Int).tmod b.toNat = ((a % b).toNat : Int) := bv_mod 32 a.toBitVec b.toBitVec
theorem zwcj : Op.intBits .and .u32 a.toNat b.toNat = pure (.int .u32 ((a &&& b).toNat : Int)) := by
 show pure (Value.int .u32 (IntKind.u32.wrap ((BitVec.ofInt 32 (a.toBitVec.toNat : Int) &&& BitVec.ofInt 32 (b.toBitVec.toNat : Int)).toNat : Int))) = _
 rw [bv_of, bv_of, zws, zwk]
 rfl
theorem u32_or : Op.intBits .or .u32 a.toNat b.toNat = pure (.int .u32 ((a ||| b).toNat : Int)) := by
 show pure (Value.int .u32 (IntKind.u32.wrap ((BitVec.ofInt 32 (a.toBitVec.toNat : Int) ||| BitVec.ofInt 32 (b.toBitVec.toNat : Int)).toNat : Int))) = _
 rw [bv_of, bv_of, zws, zwk]
 rfl
theorem zwck : Op.intBits .xor .u32 a.toNat b.toNat = pure (.int .u32 ((a ^^^ b).toNat : Int)) := by
 show pure (Value.int .u32 (IntKind.u32.wrap ((BitVec.ofInt 32 (a.toBitVec.toNat : Int) ^^^ BitVec.ofInt 32 (b.toBitVec.toNat : Int)).toNat : Int))) = _
 rw [bv_of, bv_of, zws, zwk]
 rfl
theorem zwcl : Op.intBits .andNot .u32 a.toNat b.toNat = pure (.int .u32 ((a &&& ~~~ b).toNat : Int)) := by
 show pure (Value.int .u32 (IntKind.u32.wrap ((BitVec.ofInt 32 (a.toBitVec.toNat : Int) &&& ~~~ BitVec.ofInt 32 (b.toBitVec.toNat : Int)).toNat : Int))) = _
 rw [bv_of, bv_of, zws, zwk]
 rfl
theorem zwcm : ∀ m : Nat, IntKind.u32.wrap ((a.toNat : Int) * 2 ^ min m 32) = ((shl32 a m).toNat : Int) := fun m => (zws _).trans (bv_shl 32 a.toBitVec m)
theorem zwcn : ∀ m : Nat, (a.toNat : Int).fdiv (2 ^ min m 32) = ((shr32 a m).toNat : Int) := fun m => bv_shr 32 a.toBitVec m
theorem zwco : IntKind.u32.wrap (0 - (a.toNat : Int)) = ((0 - a).toNat : Int) := (zws _).trans (bv_sub 32 0 a.toBitVec)
theorem zwcp : Op.intBits .xor .u32 (IntKind.u32.max) a.toNat = pure (.int .u32 ((~~~ a).toNat : Int)) := by
 show pure (Value.int .u32 (IntKind.u32.wrap ((BitVec.ofInt 32 (2 ^ 32 - 1) ^^^ BitVec.ofInt 32 (a.toBitVec.toNat : Int)).toNat : Int))) = _
 rw [bv_of, zws, zwk]
 have e : BitVec.ofInt 32 (2 ^ 32 - 1) = BitVec.allOnes 32 := by decide
 rw [e, BitVec.allOnes_xor]
 rfl
theorem u32_ne : (b.toNat : Int) = 0 ↔ b = 0 := by rw [← UInt32.toNat_inj]; exact Int.natCast_eq_zero
theorem u32_eq : (a.toNat : Int) = b.toNat ↔ a = b := by rw [← UInt32.toNat_inj]; exact Int.natCast_inj
theorem u32_lt : (a.toNat : Int) < b.toNat ↔ a < b := by rw [UInt32.lt_iff_toNat_lt]; exact Int.ofNat_lt
theorem u32_le : (a.toNat : Int) ≤ b.toNat ↔ a ≤ b := by rw [UInt32.le_iff_toNat_le]; exact Int.ofNat_le
end
section
variable (a b : UInt64)
theorem zwcq : IntKind.u64.wrap ((a.toNat : Int) + b.toNat) = ((a + b).toNat : Int) := (zwt _).trans (bv_add 64 a.toBitVec b.toBitVec)
theorem zwcr : IntKind.u64.wrap ((a.toNat : Int) - b.toNat) = ((a - b).toNat : Int) := (zwt _).trans (bv_sub 64 a.toBitVec b.toBitVec)
theorem zwcs : IntKind.u64.wrap ((a.toNat : Int) * b.toNat) = ((a * b).toNat : Int) := (zwt _).trans (bv_mul 64 a.toBitVec b.toBitVec)
theorem zwct : IntKind.u64.wrap ((a.toNat : Int).tdiv b.toNat) = ((a / b).toNat : Int) := (zwt _).trans (bv_div 64 a.toBitVec b.toBitVec)
theorem zwcu : (a.toNat : Int).tmod b.toNat = ((a % b).toNat : Int) := bv_mod 64 a.toBitVec b.toBitVec
theorem zwcv : Op.intBits .and .u64 a.toNat b.toNat = pure (.int .u64 ((a &&& b).toNat : Int)) := by
 show pure (Value.int .u64 (IntKind.u64.wrap ((BitVec.ofInt 64 (a.toBitVec.toNat : Int) &&& BitVec.ofInt 64 (b.toBitVec.toNat : Int)).toNat : Int))) = _
 rw [bv_of, bv_of, zwt, zwk]
 rfl
theorem u64_or : Op.intBits .or .u64 a.toNat b.toNat = pure (.int .u64 ((a ||| b).toNat : Int)) := by
 show pure (Value.int .u64 (IntKind.u64.wrap ((BitVec.ofInt 64 (a.toBitVec.toNat : Int) ||| BitVec.ofInt 64 (b.toBitVec.toNat : Int)).toNat : Int))) = _
 rw [bv_of, bv_of, zwt, zwk]
 rfl
theorem zwcw : Op.intBits .xor .u64 a.toNat b.toNat = pure (.int .u64 ((a ^^^ b).toNat : Int)) := by
 show pure (Value.int .u64 (IntKind.u64.wrap ((BitVec.ofInt 64 (a.toBitVec.toNat : Int) ^^^ BitVec.ofInt 64 (b.toBitVec.toNat : Int)).toNat : Int))) = _
 rw [bv_of, bv_of, zwt, zwk]
 rfl
theorem zwcx : Op.intBits .andNot .u64 a.toNat b.toNat = pure (.int .u64 ((a &&& ~~~ b).toNat : Int)) := by
 show pure (Value.int .u64 (IntKind.u64.wrap ((BitVec.ofInt 64 (a.toBitVec.toNat : Int) &&& ~~~ BitVec.ofInt 64 (b.toBitVec.toNat : Int)).toNat : Int))) = _
 rw [bv_of, bv_of, zwt, zwk]
 rfl
theorem zwcy : ∀ m : Nat, IntKind.u64.wrap ((a.toNat : Int) * 2 ^ min m 64) = ((shl64 a m).toNat : Int) := fun m => (zwt _).trans (bv_shl 64 a.toBitVec m)
theorem zwcz : ∀ m : Nat, (a.toNat : Int).fdiv (2 ^ min m 64) = ((shr64 a m).toNat : Int) := fun m => bv_shr 64 a.toBitVec m
theorem zwd0 : IntKind.u64.wrap (0 - (a.toNat : Int)) = ((0 - a).toNat : Int) := (zwt _).trans (bv_sub 64 0 a.toBitVec)
theorem zwd1 : Op.intBits .xor .u64 (IntKind.u64.max) a.toNat = pure (.int .u64 ((~~~ a).toNat : Int)) := by
 show pure (Value.int .u64 (IntKind.u64.wrap ((BitVec.ofInt 64 (2 ^ 64 - 1) ^^^ BitVec.ofInt 64 (a.toBitVec.toNat : Int)).toNat : Int))) = _
 rw [bv_of, zwt, zwk]
 have e : BitVec.ofInt 64 (2 ^ 64 - 1) = BitVec.allOnes 64 := by decide
 rw [e, BitVec.allOnes_xor]
 rfl
theorem u64_ne : (b.toNat : Int) = 0 ↔ b = 0 := by rw [← UInt64.toNat_inj]; exact Int.natCast_eq_zero
theorem u64_eq : (a.toNat : Int) = b.toNat ↔ a = b := by rw [← UInt64.toNat_inj]; exact Int.natCast_inj
theorem u64_lt : (a.toNat : Int) < b.toNat ↔ a < b := by rw [UInt64.lt_iff_toNat_lt]; exact Int.ofNat_lt
theorem u64_le : (a.toNat : Int) ≤ b.toNat ↔ a ≤ b := by rw [UInt64.le_iff_toNat_le]; exact Int.ofNat_le
end
section
variable {P : Program} {U : Nat → Prop} {ob : Nat → Value} {Z : Nat → Prop} {s : GS} {w : World} {ws : List Wr} {k : SV → RT} {t : TypeId} {xo yo : Operand} {op : BinOp}
def BinOk (P : Program) (U : Nat → Prop) (ob : Nat → Value) (Z : Nat → Prop) (s : GS) (w : World) (ws : List Wr) (k : SV → RT) (c : Sem Value) : Prop :=
 ∃ r z, (k r).run s = some ws ∧ SR w Z ob r z ∧ r.ids U ∧ c.run P w = .ok z w
theorem zwd2 {a b : Int} (ha : -9223372036854775808 ≤ a ∧ a ≤ 9223372036854775807) (hr : (binI64 op a b k).run s = some ws) :
  BinOk P U ob Z s w ws k (do eqGuard op t xo yo (.int .i64 a) (.int .i64 b); binOp op t (.int .i64 a) (.int .i64 b)) := by
 cases op <;> simp only [binI64] at hr
 case add => exact ⟨_, _, hr, sr_w64 _, trivial, by simp [zw5, binOp, Op.intArith, w64]⟩
 case sub => exact ⟨_, _, hr, sr_w64 _, trivial, by simp [zw5, binOp, Op.intArith, w64]⟩
 case mul => exact ⟨_, _, hr, sr_w64 _, trivial, by simp [zw5, binOp, Op.intArith, w64]⟩
 case quo =>
  obtain ⟨hb, hr⟩ := zw9 hr
  simp at hb
  exact ⟨_, _, hr, sr_w64 _, trivial, by simp [zw5, binOp, Op.intDiv, w64, hb]⟩
 case rem =>
  obtain ⟨hb, hr⟩ := zw9 hr
  simp at hb
  exact ⟨_, _, hr, sr_i64 (zw6m a b ha.1 ha.2).1 (zw6m a b ha.1 ha.2).2, trivial, by simp [zw5, binOp, Op.intDiv, hb]⟩
 case and => exact ⟨_, _, hr, sr_w64 _, trivial, by simp [zw5, binOp, Op.intBits, w64]; rfl⟩
 case or => exact ⟨_, _, hr, sr_w64 _, trivial, by simp [zw5, binOp, Op.intBits, w64]; rfl⟩
 case xor => exact ⟨_, _, hr, sr_w64 _, trivial, by simp [zw5, binOp, Op.intBits, w64]; rfl⟩
 case andNot => exact ⟨_, _, hr, sr_w64 _, trivial, by simp [zw5, binOp, Op.intBits, w64]; rfl⟩
 case eql => exact ⟨_, _, hr, zwb _, trivial, by simp [zw5, binOp, Op.intCmp, ibeq]⟩
 case neq => exact ⟨_, _, hr, zwb _, trivial, by simp [zw5, binOp, Op.intCmp, bne, ibeq]⟩
 case lss => exact ⟨_, _, hr, zwb _, trivial, by simp [zw5, binOp, Op.intCmp]⟩
 case leq => exact ⟨_, _, hr, zwb _, trivial, by simp [zw5, binOp, Op.intCmp]⟩
 case gtr => exact ⟨_, _, hr, zwb _, trivial, by simp [zw5, binOp, Op.intCmp]⟩
 case geq => exact ⟨_, _, hr, zwb _, trivial, by simp [zw5, binOp, Op.intCmp]⟩
 all_goals exact zw0 hr
theorem zwd3 {a b : UInt8} (hr : (binU8 op a b k).run s = some ws) :
  BinOk P U ob Z s w ws k (do eqGuard op t xo yo (.int .u8 a.toNat) (.int .u8 b.toNat); binOp op t (.int .u8 a.toNat) (.int .u8 b.toNat)) := by
 cases op <;> simp only [binU8] at hr
 case add => exact ⟨_, _, hr, sr_u8 _, trivial, by simp only [Sem.run_bind, zw5, Result.andThen_ok, binOp, Op.intArith, ne_eq, not_true_eq_false, if_false, Sem.run_pure, u8_add]⟩
 case sub => exact ⟨_, _, hr, sr_u8 _, trivial, by simp only [Sem.run_bind, zw5, Result.andThen_ok, binOp, Op.intArith, ne_eq, not_true_eq_false, if_false, Sem.run_pure, u8_sub]⟩
 case mul => exact ⟨_, _, hr, sr_u8 _, trivial, by simp only [Sem.run_bind, zw5, Result.andThen_ok, binOp, Op.intArith, ne_eq, not_true_eq_false, if_false, Sem.run_pure, u8_mul]⟩
 case quo =>
  obtain ⟨hb, hr⟩ := zw9 hr
  have hb' : ¬ (b.toNat : Int) = 0 := fun e => by rw [u8_ne] at e; simp [e] at hb
  exact ⟨_, _, hr, sr_u8 _, trivial, by simp only [Sem.run_bind, zw5, Result.andThen_ok, binOp, Op.intDiv, ne_eq, not_true_eq_false, if_false, if_neg hb', Sem.run_pure, u8_quo]⟩
 case rem =>
  obtain ⟨hb, hr⟩ := zw9 hr
  have hb' : ¬ (b.toNat : Int) = 0 := fun e => by rw [u8_ne] at e; simp [e] at hb
  exact ⟨_, _, hr, sr_u8 _, trivial, by simp only [Sem.run_bind, zw5, Result.andThen_ok, binOp, Op.intDiv, ne_eq, not_true_eq_false, if_false, if_neg hb', Sem.run_pure, u8_rem]⟩
 case and => exact ⟨_, _, hr, sr_u8 _, trivial, by simp only [Sem.run_bind, zw5, Result.andThen_ok, binOp, ne_eq, not_true_eq_false, if_false, u8_and, Sem.run_pure]⟩
 case or => exact ⟨_, _, hr, sr_u8 _, trivial, by simp only [Sem.run_bind, zw5, Result.andThen_ok, binOp, ne_eq, not_true_eq_false, if_false, u8_or, Sem.run_pure]⟩
 case xor => exact ⟨_, _, hr, sr_u8 _, trivial, by simp only [Sem.run_bind, zw5, Result.andThen_ok, binOp, ne_eq, not_true_eq_false, if_false, u8_xor, Sem.run_pure]⟩
 case andNot => exact ⟨_, _, hr, sr_u8 _, trivial, by simp only [Sem.run_bind, zw5, Result.andThen_ok, binOp, ne_eq, not_true_eq_false, if_false, zwc2, Sem.run_pure]⟩
 case eql => exact ⟨_, _, hr, zwb _, trivial, by simp only [Sem.run_bind, zw5, Result.andThen_ok, binOp, Op.intCmp, ne_eq, not_true_eq_false, if_false, Sem.run_pure, u8_eq, ibeq]⟩
 case neq => exact ⟨_, _, hr, zwb _, trivial, by simp only [Sem.run_bind, zw5, Result.andThen_ok, binOp, Op.intCmp, ne_eq, not_true_eq_false, if_false, Sem.run_pure, u8_eq, bne, ibeq]⟩
 case lss => exact ⟨_, _, hr, zwb _, trivial, by simp only [Sem.run_bind, zw5, Result.andThen_ok, binOp, Op.intCmp, ne_eq, not_true_eq_false, if_false, Sem.run_pure, u8_lt, gt_iff_lt, ge_iff_le]⟩
 case leq => exact ⟨_, _, hr, zwb _, trivial, by simp only [Sem.run_bind, zw5, Result.andThen_ok, binOp, Op.intCmp, ne_eq, not_true_eq_false, if_false, Sem.run_pure, u8_le, gt_iff_lt, ge_iff_le]⟩
 case gtr => exact ⟨_, _, hr, zwb _, trivial, by simp only [Sem.run_bind, zw5, Result.andThen_ok, binOp, Op.intCmp, ne_eq, not_true_eq_false, if_false, Sem.run_pure, u8_lt, gt_iff_lt, ge_iff_le]⟩
 case geq => exact ⟨_, _, hr, zwb _, trivial, by simp only [Sem.run_bind, zw5, Result.andThen_ok, binOp, Op.intCmp, ne_eq, not_true_eq_false, if_false, Sem.run_pure, u8_le, gt_iff_lt, ge_iff_le]⟩
 all_goals exact zw0 hr
theorem zwd4 {a b : UInt16} (hr : (binU16 op a b k).run s = some ws) :
  BinOk P U ob Z s w ws k (do eqGuard op t xo yo (.int .u16 a.toNat) (.int .u16 b.toNat); binOp op t (.int .u16 a.toNat) (.int .u16 b.toNat)) := by
 cases op <;> simp only [binU16] at hr
 case add => exact ⟨_, _, hr, sr_u16 _, trivial, by simp only [Sem.run_bind, zw5, Result.andThen_ok, binOp, Op.intArith, ne_eq, not_true_eq_false, if_false, Sem.run_pure, zwc3]⟩
 case sub => exact ⟨_, _, hr, sr_u16 _, trivial, by simp only [Sem.run_bind, zw5, Result.andThen_ok, binOp, Op.intArith, ne_eq, not_true_eq_false, if_false, Sem.run_pure, zwc4]⟩
 case mul => exact ⟨_, _, hr, sr_u16 _, trivial, by simp only [Sem.run_bind, zw5, Result.andThen_ok, binOp, Op.intArith, ne_eq, not_true_eq_false, if_false, Sem.run_pure, zwc5]⟩
 case quo =>
  obtain ⟨hb, hr⟩ := zw9 hr
  have hb' : ¬ (b.toNat : Int) = 0 := fun e => by rw [u16_ne] at e; simp [e] at hb
  exact ⟨_, _, hr, sr_u16 _, trivial, by simp only [Sem.run_bind, zw5, Result.andThen_ok, binOp, Op.intDiv, ne_eq, not_true_eq_false, if_false, if_neg hb', Sem.run_pure, zwc6]⟩
 case rem =>
  obtain ⟨hb, hr⟩ := zw9 hr
  have hb' : ¬ (b.toNat : Int) = 0 := fun e => by rw [u16_ne] at e; simp [e] at hb
  exact ⟨_, _, hr, sr_u16 _, trivial, by simp only [Sem.run_bind, zw5, Result.andThen_ok, binOp, Op.intDiv, ne_eq, not_true_eq_false, if_false, if_neg hb', Sem.run_pure, zwc7]⟩
 case and => exact ⟨_, _, hr, sr_u16 _, trivial, by simp only [Sem.run_bind, zw5, Result.andThen_ok, binOp, ne_eq, not_true_eq_false, if_false, zwc8, Sem.run_pure]⟩
 case or => exact ⟨_, _, hr, sr_u16 _, trivial, by simp only [Sem.run_bind, zw5, Result.andThen_ok, binOp, ne_eq, not_true_eq_false, if_false, u16_or, Sem.run_pure]⟩
 case xor => exact ⟨_, _, hr, sr_u16 _, trivial, by simp only [Sem.run_bind, zw5, Result.andThen_ok, binOp, ne_eq, not_true_eq_false, if_false, zwc9, Sem.run_pure]⟩
 case andNot => exact ⟨_, _, hr, sr_u16 _, trivial, by simp only [Sem.run_bind, zw5, Result.andThen_ok, binOp, ne_eq, not_true_eq_false, if_false, zwca, Sem.run_pure]⟩
 case eql => exact ⟨_, _, hr, zwb _, trivial, by simp only [Sem.run_bind, zw5, Result.andThen_ok, binOp, Op.intCmp, ne_eq, not_true_eq_false, if_false, Sem.run_pure, u16_eq, ibeq]⟩
 case neq => exact ⟨_, _, hr, zwb _, trivial, by simp only [Sem.run_bind, zw5, Result.andThen_ok, binOp, Op.intCmp, ne_eq, not_true_eq_false, if_false, Sem.run_pure, u16_eq, bne, ibeq]⟩
 case lss => exact ⟨_, _, hr, zwb _, trivial, by simp only [Sem.run_bind, zw5, Result.andThen_ok, binOp, Op.intCmp, ne_eq, not_true_eq_false, if_false, Sem.run_pure, u16_lt, gt_iff_lt, ge_iff_le]⟩
 case leq => exact ⟨_, _, hr, zwb _, trivial, by simp only [Sem.run_bind, zw5, Result.andThen_ok, binOp, Op.intCmp, ne_eq, not_true_eq_false, if_false, Sem.run_pure, u16_le, gt_iff_lt, ge_iff_le]⟩
 case gtr => exact ⟨_, _, hr, zwb _, trivial, by simp only [Sem.run_bind, zw5, Result.andThen_ok, binOp, Op.intCmp, ne_eq, not_true_eq_false, if_false, Sem.run_pure, u16_lt, gt_iff_lt, ge_iff_le]⟩
 case geq => exact ⟨_, _, hr, zwb _, trivial, by simp only [Sem.run_bind, zw5, Result.andThen_ok, binOp, Op.intCmp, ne_eq, not_true_eq_false, if_false, Sem.run_pure, u16_le, gt_iff_lt, ge_iff_le]⟩
 all_goals exact zw0 hr
theorem zwd5 {a b : UInt32} (hr : (binU32 op a b k).run s = some ws) :
  BinOk P U ob Z s w ws k (do eqGuard op t xo yo (.int .u32 a.toNat) (.int .u32 b.toNat); binOp op t (.int .u32 a.toNat) (.int .u32 b.toNat)) := by
 cases op <;> simp only [binU32] at hr
 case add => exact ⟨_, _, hr, sr_u32 _, trivial, by simp only [Sem.run_bind, zw5, Result.andThen_ok, binOp, Op.intArith, ne_eq, not_true_eq_false, if_false, Sem.run_pure, zwce]⟩
 case sub => exact ⟨_, _, hr, sr_u32 _, trivial, by simp only [Sem.run_bind, zw5, Result.andThen_ok, binOp, Op.intArith, ne_eq, not_true_eq_false, if_false, Sem.run_pure, zwcf]⟩
 case mul => exact ⟨_, _, hr, sr_u32 _, trivial, by simp only [Sem.run_bind, zw5, Result.andThen_ok, binOp, Op.intArith, ne_eq, not_true_eq_false, if_false, Sem.run_pure, zwcg]⟩
 case quo =>
  obtain ⟨hb, hr⟩ := zw9 hr
  have hb' : ¬ (b.toNat : Int) = 0 := fun e => by rw [u32_ne] at e; simp [e] at hb
  exact ⟨_, _, hr, sr_u32 _, trivial, by simp only [Sem.run_bind, zw5, Result.andThen_ok, binOp, Op.intDiv, ne_eq, not_true_eq_false, if_false, if_neg hb', Sem.run_pure, zwch]⟩
 case rem =>
  obtain ⟨hb, hr⟩ := zw9 hr
  have hb' : ¬ (b.toNat : Int) = 0 := fun e => by rw [u32_ne] at e; simp [e] at hb
  exact ⟨_, _, hr, sr_u32 _, trivial, by simp only [Sem.run_bind, zw5, Result.andThen_ok, binOp, Op.intDiv, ne_eq, not_true_eq_false, if_false, if_neg hb', Sem.run_pure, zwci]⟩
 case and => exact ⟨_, _, hr, sr_u32 _, trivial, by simp only [Sem.run_bind, zw5, Result.andThen_ok, binOp, ne_eq, not_true_eq_false, if_false, zwcj, Sem.run_pure]⟩
 case or => exact ⟨_, _, hr, sr_u32 _, trivial, by simp only [Sem.run_bind, zw5, Result.andThen_ok, binOp, ne_eq, not_true_eq_false, if_false, u32_or, Sem.run_pure]⟩
 case xor => exact ⟨_, _, hr, sr_u32 _, trivial, by simp only [Sem.run_bind, zw5, Result.andThen_ok, binOp, ne_eq, not_true_eq_false, if_false, zwck, Sem.run_pure]⟩
 case andNot => exact ⟨_, _, hr, sr_u32 _, trivial, by simp only [Sem.run_bind, zw5, Result.andThen_ok, binOp, ne_eq, not_true_eq_false, if_false, zwcl, Sem.run_pure]⟩
 case eql => exact ⟨_, _, hr, zwb _, trivial, by simp only [Sem.run_bind, zw5, Result.andThen_ok, binOp, Op.intCmp, ne_eq, not_true_eq_false, if_false, Sem.run_pure, u32_eq, ibeq]⟩
 case neq => exact ⟨_, _, hr, zwb _, trivial, by simp only [Sem.run_bind, zw5, Result.andThen_ok, binOp, Op.intCmp, ne_eq, not_true_eq_false, if_false, Sem.run_pure, u32_eq, bne, ibeq]⟩
 case lss => exact ⟨_, _, hr, zwb _, trivial, by simp only [Sem.run_bind, zw5, Result.andThen_ok, binOp, Op.intCmp, ne_eq, not_true_eq_false, if_false, Sem.run_pure, u32_lt, gt_iff_lt, ge_iff_le]⟩
 case leq => exact ⟨_, _, hr, zwb _, trivial, by simp only [Sem.run_bind, zw5, Result.andThen_ok, binOp, Op.intCmp, ne_eq, not_true_eq_false, if_false, Sem.run_pure, u32_le, gt_iff_lt, ge_iff_le]⟩
 case gtr => exact ⟨_, _, hr, zwb _, trivial, by simp only [Sem.run_bind, zw5, Result.andThen_ok, binOp, Op.intCmp, ne_eq, not_true_eq_false, if_false, Sem.run_pure, u32_lt, gt_iff_lt, ge_iff_le]⟩
 case geq => exact ⟨_, _, hr, zwb _, trivial, by simp only [Sem.run_bind, zw5, Result.andThen_ok, binOp, Op.intCmp, ne_eq, not_true_eq_false, if_false, Sem.run_pure, u32_le, gt_iff_lt, ge_iff_le]⟩
 all_goals exact zw0 hr
theorem zwd6 {a b : UInt64} (hr : (binU64 op a b k).run s = some ws) :
  BinOk P U ob Z s w ws k (do eqGuard op t xo yo (.int .u64 a.toNat) (.int .u64 b.toNat); binOp op t (.int .u64 a.toNat) (.int .u64 b.toNat)) := by
 cases op <;> simp only [binU64] at hr
 case add => exact ⟨_, _, hr, sr_u64 _, trivial, by simp only [Sem.run_bind, zw5, Result.andThen_ok, binOp, Op.intArith, ne_eq, not_true_eq_false, if_false, Sem.run_pure, zwcq]⟩
 case sub => exact ⟨_, _, hr, sr_u64 _, trivial, by simp only [Sem.run_bind, zw5, Result.andThen_ok, binOp, Op.intArith, ne_eq, not_true_eq_false, if_false, Sem.run_pure, zwcr]⟩
 case mul => exact ⟨_, _, hr, sr_u64 _, trivial, by simp only [Sem.run_bind, zw5, Result.andThen_ok, binOp, Op.intArith, ne_eq, not_true_eq_false, if_false, Sem.run_pure, zwcs]⟩
 case quo =>
  obtain ⟨hb, hr⟩ := zw9 hr
  have hb' : ¬ (b.toNat : Int) = 0 := fun e => by rw [u64_ne] at e; simp [e] at hb
  exact ⟨_, _, hr, sr_u64 _, trivial, by simp only [Sem.run_bind, zw5, Result.andThen_ok, binOp, Op.intDiv, ne_eq, not_true_eq_false, if_false, if_neg hb', Sem.run_pure, zwct]⟩
 case rem =>
  obtain ⟨hb, hr⟩ := zw9 hr
  have hb' : ¬ (b.toNat : Int) = 0 := fun e => by rw [u64_ne] at e; simp [e] at hb
  exact ⟨_, _, hr, sr_u64 _, trivial, by simp only [Sem.run_bind, zw5, Result.andThen_ok, binOp, Op.intDiv, ne_eq, not_true_eq_false, if_false, if_neg hb', Sem.run_pure, zwcu]⟩
 case and => exact ⟨_, _, hr, sr_u64 _, trivial, by simp only [Sem.run_bind, zw5, Result.andThen_ok, binOp, ne_eq, not_true_eq_false, if_false, zwcv, Sem.run_pure]⟩
 case or => exact ⟨_, _, hr, sr_u64 _, trivial, by simp only [Sem.run_bind, zw5, Result.andThen_ok, binOp, ne_eq, not_true_eq_false, if_false, u64_or, Sem.run_pure]⟩
 case xor => exact ⟨_, _, hr, sr_u64 _, trivial, by simp only [Sem.run_bind, zw5, Result.andThen_ok, binOp, ne_eq, not_true_eq_false, if_false, zwcw, Sem.run_pure]⟩
 case andNot => exact ⟨_, _, hr, sr_u64 _, trivial, by simp only [Sem.run_bind, zw5, Result.andThen_ok, binOp, ne_eq, not_true_eq_false, if_false, zwcx, Sem.run_pure]⟩
 case eql => exact ⟨_, _, hr, zwb _, trivial, by simp only [Sem.run_bind, zw5, Result.andThen_ok, binOp, Op.intCmp, ne_eq, not_true_eq_false, if_false, Sem.run_pure, u64_eq, ibeq]⟩
 case neq => exact ⟨_, _, hr, zwb _, trivial, by simp only [Sem.run_bind, zw5, Result.andThen_ok, binOp, Op.intCmp, ne_eq, not_true_eq_false, if_false, Sem.run_pure, u64_eq, bne, ibeq]⟩
 case lss => exact ⟨_, _, hr, zwb _, trivial, by simp only [Sem.run_bind, zw5, Result.andThen_ok, binOp, Op.intCmp, ne_eq, not_true_eq_false, if_false, Sem.run_pure, u64_lt, gt_iff_lt, ge_iff_le]⟩
 case leq => exact ⟨_, _, hr, zwb _, trivial, by simp only [Sem.run_bind, zw5, Result.andThen_ok, binOp, Op.intCmp, ne_eq, not_true_eq_false, if_false, Sem.run_pure, u64_le, gt_iff_lt, ge_iff_le]⟩
 case gtr => exact ⟨_, _, hr, zwb _, trivial, by simp only [Sem.run_bind, zw5, Result.andThen_ok, binOp, Op.intCmp, ne_eq, not_true_eq_false, if_false, Sem.run_pure, u64_lt, gt_iff_lt, ge_iff_le]⟩
 case geq => exact ⟨_, _, hr, zwb _, trivial, by simp only [Sem.run_bind, zw5, Result.andThen_ok, binOp, Op.intCmp, ne_eq, not_true_eq_false, if_false, Sem.run_pure, u64_le, gt_iff_lt, ge_iff_le]⟩
 all_goals exact zw0 hr
end
end Go.Proofs.YtajpblfinenmjaaGreatDoor
