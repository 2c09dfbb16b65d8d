/- The ghost machine and the machine: operations on values. -/
import Derived.Test.YtlamdneheilahaaDoorGmBin
import Derived.Laws.Strings
set_option linter.unusedVariables false
set_option linter.unusedSimpArgs false
namespace Go.Proofs.YtlamdneheilahaaDoor
open Go
section
variable {P : Program} {Γ : Ctx} {E : Env} {U : Nat → Prop} {ob : Nat → Value} {Z : Nat → Prop} {s : GS} {a : Act} {w : World} {ws : List Wr} {k : SV → RT} {o : Oper} {fresh : Nat} {Q : Exit → Act → World → Prop}

theorem amount_ok {y : SV} {yv : Value} {k : Nat → RT} (hy : SR w Z ob y yv) (hr : (amount y k).run s = some ws) :
    ∃ (yk : IntKind) (n : Int), yv = .int yk n ∧ 0 ≤ n ∧ (k n.toNat).run s = some ws := by
  unfold amount at hr
  split at hr
  · obtain ⟨h1, h2⟩ := run_chk hr
    exact ⟨_, _, hy.i64.1, by simpa using h1, h2⟩
  · exact ⟨_, _, hy.u8, Int.natCast_nonneg _, hr⟩
  · exact ⟨_, _, hy.u16, Int.natCast_nonneg _, hr⟩
  · exact ⟨_, _, hy.u32, Int.natCast_nonneg _, hr⟩
  · exact ⟨_, _, hy.u64, Int.natCast_nonneg _, hr⟩
  · exact run_fail hr

theorem shl_ok {t : TypeId} {xo yo : Operand} {kx yk : IntKind} {m n : Int} {z : Int} (hn : 0 ≤ n) (hz : kx.wrap (m * 2 ^ min n.toNat kx.bits) = z) :
    (do eqGuard .shl t xo yo (.int kx m) (.int yk n); binOp .shl t (.int kx m) (.int yk n)).run P w = .ok (.int kx z) w := by
  subst hz
  have : ¬ n < 0 := by omega
  simp [eqGuard_int, binOp, Op.shift, this]
theorem shr_ok {t : TypeId} {xo yo : Operand} {kx yk : IntKind} {m n : Int} {z : Int} (hn : 0 ≤ n) (hz : m.fdiv (2 ^ min n.toNat kx.bits) = z) :
    (do eqGuard .shr t xo yo (.int kx m) (.int yk n); binOp .shr t (.int kx m) (.int yk n)).run P w = .ok (.int kx z) w := by
  subst hz
  have : ¬ n < 0 := by omega
  simp [eqGuard_int, binOp, Op.shift, this]

theorem equalIn_bool {t : TypeId} (d : Nat) (hu : P.underlying t = some .bool) (a b : Bool) : (Op.equalIn (d + 1) t (.bool a) (.bool b)).run P w = .ok (a == b) w := by
  simp [Op.equalIn, run_underlying hu]
theorem equal_bool {t : TypeId} (hu : P.underlying t = some .bool) (a b : Bool) : (Op.equal t (.bool a) (.bool b)).run P w = .ok (a == b) w := equalIn_bool 9999 hu a b
theorem eq_ok {T : TI} {t : TypeId} {xo yo : Operand} (hti : TOk P t T) : ∀ {u : Ty} (_ : T.ty = u) {x y : u.den} {xv yv : Value} (_ : SR w Z ob (.data u x) xv) (_ : SR w Z ob (.data u y) yv) {e : Bool} (_ : deq u x y = some e),
    (do eqGuard .eql t xo yo xv yv; binOp .eql t xv yv).run P w = .ok (.bool e) w ∧ (do eqGuard .neq t xo yo xv yv; binOp .neq t xv yv).run P w = .ok (.bool (!e)) w := by
  intro u hu x y xv yv hx hy e hd
  have hs := hti.shape
  rw [hu] at hs
  cases u <;> simp only [deq] at hd <;> cases hd
  case bool =>
    simp only [TSh] at hs
    obtain rfl := hx.bool; obtain rfl := hy.bool
    have hb : ∀ a b : Bool, (a == b) = decide (a = b) := by decide
    exact ⟨by simp only [Sem.run_bind, eqGuard_bool, Result.andThen_ok, binOp, equal_bool hs, Sem.run_pure, hb], by simp only [Sem.run_bind, eqGuard_bool, Result.andThen_ok, binOp, equal_bool hs, Sem.run_pure, hb]⟩
  case str =>
    obtain ⟨rfl, _⟩ := hx.str; obtain ⟨rfl, _⟩ := hy.str
    have hb : ((⟨x.toArray⟩ : ByteArray).toList == (⟨y.toArray⟩ : ByteArray).toList) = decide (x = y) := by
      rw [ByteArray.toList_eq, ByteArray.toList_eq, Bool.eq_iff_iff]; simp
    exact ⟨by simp only [Sem.run_bind, eqGuard_str, Result.andThen_ok, binOp, Op.stringOp, hb, Sem.run_pure], by simp only [Sem.run_bind, eqGuard_str, Result.andThen_ok, binOp, Op.stringOp, hb, Sem.run_pure]⟩
theorem binSV_ok {op : BinOp} {x y : SV} {xv yv : Value} {t : TypeId} {xo yo : Operand} (hT : TysOk P Γ) (hx : SR w Z ob x xv) (hy : SR w Z ob y yv) (hr : (binSV (look t Γ.tys) op x y k).run s = some ws) :
    BinOk P U ob Z s w ws k (do eqGuard op t xo yo xv yv; binOp op t xv yv) := by
  unfold binSV at hr
  split at hr
  · obtain ⟨yk, n, rfl, hn, hr⟩ := amount_ok hy hr
    split at hr
    · obtain ⟨rfl, _⟩ := hx.i64; exact ⟨_, _, hr, sr_w64 _, trivial, shl_ok hn rfl⟩
    · obtain rfl := hx.u8; exact ⟨_, _, hr, sr_u8 _, trivial, shl_ok hn (u8_shl _ _)⟩
    · obtain rfl := hx.u16; exact ⟨_, _, hr, sr_u16 _, trivial, shl_ok hn (u16_shl _ _)⟩
    · obtain rfl := hx.u32; exact ⟨_, _, hr, sr_u32 _, trivial, shl_ok hn (u32_shl _ _)⟩
    · obtain rfl := hx.u64; exact ⟨_, _, hr, sr_u64 _, trivial, shl_ok hn (u64_shl _ _)⟩
    · exact run_fail hr
  · obtain ⟨yk, n, rfl, hn, hr⟩ := amount_ok hy hr
    split at hr
    · obtain ⟨rfl, h1, h2⟩ := hx.i64; exact ⟨_, _, hr, sr_i64 (shrI_range _ _ h1 h2).1 (shrI_range _ _ h1 h2).2, trivial, shr_ok hn rfl⟩
    · obtain rfl := hx.u8; exact ⟨_, _, hr, sr_u8 _, trivial, shr_ok hn (u8_shr _ _)⟩
    · obtain rfl := hx.u16; exact ⟨_, _, hr, sr_u16 _, trivial, shr_ok hn (u16_shr _ _)⟩
    · obtain rfl := hx.u32; exact ⟨_, _, hr, sr_u32 _, trivial, shr_ok hn (u32_shr _ _)⟩
    · obtain rfl := hx.u64; exact ⟨_, _, hr, sr_u64 _, trivial, shr_ok hn (u64_shr _ _)⟩
    · exact run_fail hr
  · split at hr
    · obtain ⟨rfl, h1⟩ := hx.i64; obtain ⟨rfl, _⟩ := hy.i64; exact binI64_ok h1 hr
    · obtain rfl := hx.u8; obtain rfl := hy.u8; exact binU8_ok hr
    · obtain rfl := hx.u16; obtain rfl := hy.u16; exact binU16_ok hr
    · obtain rfl := hx.u32; obtain rfl := hy.u32; exact binU32_ok hr
    · obtain rfl := hx.u64; obtain rfl := hy.u64; exact binU64_ok hr
    · split at hr
      · rename_i hl hcast
        obtain ⟨hsame, hr⟩ := run_cond hr
        obtain ⟨he, hb⟩ := tcast_some hcast
        subst he
        simp only at hb
        subst hb
        have hte := Ty.same_eq hsame
        have hti := hT t _ hl
        split at hr
        · rename_i e hd
          obtain ⟨he1, he2⟩ := eq_ok (P := P) (t := t) (xo := xo) (yo := yo) hti hte hx hy hd
          split at hr
          · exact ⟨_, _, hr, sr_bool _, trivial, he1⟩
          · exact ⟨_, _, hr, sr_bool _, trivial, he2⟩
          · exact run_fail hr
        · exact run_fail hr
      · exact run_fail hr
    · exact run_fail hr

theorem unSV_ok {op : UnOp} {x : SV} {xv : Value} (hx : SR w Z ob x xv) (hr : (unSV op x k).run s = some ws) :
    BinOk P U ob Z s w ws k (Op.unary op xv) := by
  unfold unSV at hr
  split at hr
  · obtain rfl := hx.bool; exact ⟨_, _, hr, sr_bool _, trivial, by simp [Op.unary]⟩
  · obtain ⟨rfl, _⟩ := hx.i64; exact ⟨_, _, hr, sr_w64 _, trivial, by simp [Op.unary, Op.intArith, w64]⟩
  · obtain rfl := hx.u8; exact ⟨_, _, hr, sr_u8 _, trivial, by simp only [Op.unary, Op.intArith, u8_neg, Sem.run_pure]⟩
  · obtain rfl := hx.u32; exact ⟨_, _, hr, sr_u32 _, trivial, by simp only [Op.unary, Op.intArith, u32_neg, Sem.run_pure]⟩
  · obtain rfl := hx.u64; exact ⟨_, _, hr, sr_u64 _, trivial, by simp only [Op.unary, Op.intArith, u64_neg, Sem.run_pure]⟩
  · obtain rfl := hx.u8; exact ⟨_, _, hr, sr_u8 _, trivial, by simp only [Op.unary, IntKind.signed, Bool.false_eq_true, if_false, u8_not, Sem.run_pure]⟩
  · obtain rfl := hx.u16; exact ⟨_, _, hr, sr_u16 _, trivial, by simp only [Op.unary, IntKind.signed, Bool.false_eq_true, if_false, u16_not, Sem.run_pure]⟩
  · obtain rfl := hx.u32; exact ⟨_, _, hr, sr_u32 _, trivial, by simp only [Op.unary, IntKind.signed, Bool.false_eq_true, if_false, u32_not, Sem.run_pure]⟩
  · obtain rfl := hx.u64; exact ⟨_, _, hr, sr_u64 _, trivial, by simp only [Op.unary, IntKind.signed, Bool.false_eq_true, if_false, u64_not, Sem.run_pure]⟩
  · exact run_fail hr

theorem wrap_i64_nat {n : Nat} (h : n ≤ 9223372036854775807) : IntKind.i64.wrap (n : Int) = n := w64_id (by omega) (by omega)
/-- A number becomes one of another kind. -/
def ConvOk (P : Program) (U : Nat → Prop) (ob : Nat → Value) (Z : Nat → Prop) (s : GS) (w : World) (ws : List Wr) (k : SV → RT) (kd : IntKind) (xv : Value) : Prop :=
  ∃ r kx n, (k r).run s = some ws ∧ xv = .int kx n ∧ SR w Z ob r (.int kd (kd.wrap n)) ∧ r.ids U
theorem convSV_ok {d : Ty} {kd : IntKind} {x : SV} {xv : Value} (hd : (d = .i64 ∧ kd = .i64) ∨ (d = .u8 ∧ kd = .u8) ∨ (d = .u16 ∧ kd = .u16) ∨ (d = .u32 ∧ kd = .u32) ∨ (d = .u64 ∧ kd = .u64)) (hx : SR w Z ob x xv) (hr : (convSV d x k).run s = some ws) :
    ConvOk P U ob Z s w ws k kd xv := by
  have l8 : ∀ a : UInt8, (a.toNat : Int) < 2 ^ 8 := fun a => bv_lt 8 a.toBitVec
  have l16 : ∀ a : UInt16, (a.toNat : Int) < 2 ^ 16 := fun a => bv_lt 16 a.toBitVec
  have l32 : ∀ a : UInt32, (a.toNat : Int) < 2 ^ 32 := fun a => bv_lt 32 a.toBitVec
  have l64 : ∀ a : UInt64, (a.toNat : Int) < 2 ^ 64 := fun a => bv_lt 64 a.toBitVec
  have n8 : ∀ a : Int, ((iu8 a).toNat : Int) = a % 2 ^ 8 := fun a => by show ((BitVec.ofInt 8 a).toNat : Int) = _; rw [BitVec.toNat_ofInt]; omega
  have n16 : ∀ a : Int, ((iu16 a).toNat : Int) = a % 2 ^ 16 := fun a => by show ((BitVec.ofInt 16 a).toNat : Int) = _; rw [BitVec.toNat_ofInt]; omega
  have n32 : ∀ a : Int, ((iu32 a).toNat : Int) = a % 2 ^ 32 := fun a => by show ((BitVec.ofInt 32 a).toNat : Int) = _; rw [BitVec.toNat_ofInt]; omega
  have n64 : ∀ a : Int, ((iu64 a).toNat : Int) = a % 2 ^ 64 := fun a => by show ((BitVec.ofInt 64 a).toNat : Int) = _; rw [BitVec.toNat_ofInt]; omega
  unfold convSV at hr
  split at hr
  all_goals (try (exact run_fail hr))
  all_goals
    rcases hd with ⟨e, rfl⟩ | ⟨e, rfl⟩ | ⟨e, rfl⟩ | ⟨e, rfl⟩ | ⟨e, rfl⟩ <;> (try cases e)
  all_goals (first
    | obtain ⟨rfl, hb1, hb2⟩ := hx.i64
    | obtain rfl := hx.u8
    | obtain rfl := hx.u16
    | obtain rfl := hx.u32
    | obtain rfl := hx.u64)
  all_goals refine ⟨_, _, _, hr, rfl, ?_, trivial⟩
  · rw [show IntKind.i64.wrap _ = _ from w64_id hb1 hb2]; exact sr_i64 hb1 hb2
  · have := l8 ‹_›; rw [wrap_i64_nat (by omega)]; exact sr_i64 (by omega) (by omega)
  · have := l16 ‹_›; rw [wrap_i64_nat (by omega)]; exact sr_i64 (by omega) (by omega)
  · have := l32 ‹_›; rw [wrap_i64_nat (by omega)]; exact sr_i64 (by omega) (by omega)
  · exact sr_w64 _
  · rw [wrap_u8, ← n8]; exact sr_u8 _
  · rw [wrap_u8, Int.emod_eq_of_lt (by omega) (l8 _)]; exact sr_u8 _
  · have h := sr_u8 (w := w) (Z := Z) (ob := ob) (UInt16.toUInt8 ‹_›); rw [UInt16.toNat_toUInt8] at h; rw [Int.natCast_emod] at h; rw [wrap_u8]; exact h
  · have h := sr_u8 (w := w) (Z := Z) (ob := ob) (UInt32.toUInt8 ‹_›); rw [UInt32.toNat_toUInt8] at h; rw [Int.natCast_emod] at h; rw [wrap_u8]; exact h
  · have h := sr_u8 (w := w) (Z := Z) (ob := ob) (UInt64.toUInt8 ‹_›); rw [UInt64.toNat_toUInt8] at h; rw [Int.natCast_emod] at h; rw [wrap_u8]; exact h
  · rw [wrap_u16, ← n16]; exact sr_u16 _
  · have := l8 ‹_›; rw [wrap_u16, Int.emod_eq_of_lt (by omega) (by omega)]; exact sr_u16 (UInt8.toUInt16 _)
  · rw [wrap_u16, Int.emod_eq_of_lt (by omega) (l16 _)]; exact sr_u16 _
  · have h := sr_u16 (w := w) (Z := Z) (ob := ob) (UInt32.toUInt16 ‹_›); rw [UInt32.toNat_toUInt16] at h; rw [Int.natCast_emod] at h; rw [wrap_u16]; exact h
  · have h := sr_u16 (w := w) (Z := Z) (ob := ob) (UInt64.toUInt16 ‹_›); rw [UInt64.toNat_toUInt16] at h; rw [Int.natCast_emod] at h; rw [wrap_u16]; exact h
  · rw [wrap_u32, ← n32]; exact sr_u32 _
  · have := l8 ‹_›; rw [wrap_u32, Int.emod_eq_of_lt (by omega) (by omega)]; exact sr_u32 (UInt8.toUInt32 _)
  · have := l16 ‹_›; rw [wrap_u32, Int.emod_eq_of_lt (by omega) (by omega)]; exact sr_u32 (UInt16.toUInt32 _)
  · rw [wrap_u32, Int.emod_eq_of_lt (by omega) (l32 _)]; exact sr_u32 _
  · have h := sr_u32 (w := w) (Z := Z) (ob := ob) (UInt64.toUInt32 ‹_›); rw [UInt64.toNat_toUInt32] at h; rw [Int.natCast_emod] at h; rw [wrap_u32]; exact h
  · rw [wrap_u64, ← n64]; exact sr_u64 _
  · have := l8 ‹_›; rw [wrap_u64, Int.emod_eq_of_lt (by omega) (by omega)]; exact sr_u64 (UInt8.toUInt64 _)
  · have := l16 ‹_›; rw [wrap_u64, Int.emod_eq_of_lt (by omega) (by omega)]; exact sr_u64 (UInt16.toUInt64 _)
  · have := l32 ‹_›; rw [wrap_u64, Int.emod_eq_of_lt (by omega) (by omega)]; exact sr_u64 (UInt32.toUInt64 _)
  · rw [wrap_u64, Int.emod_eq_of_lt (by omega) (l64 _)]; exact sr_u64 _

theorem op_binOp (hT : TysOk P Γ) (h : RepAt E Γ.N U ob Z s a w) (hg : E.globs = Γ.globs) {op : BinOp} {t yt : TypeId} {x y : Operand} (ho : o.op = .binOp op t x y yt) (hr : (evalOp Γ fresh o).run s = some ws) :
    o.wp P a w (After E Γ.N U fresh s ws) Q := by
  simp only [evalOp, ho] at hr
  obtain ⟨v, h1, h2, hr⟩ := svR_ok h hg hr
  obtain ⟨u, h3, h4, hr⟩ := svR_ok h hg hr
  obtain ⟨r, z, hr, h5, h6, h7⟩ := binSV_ok (U := U) (P := P) (xo := x) (yo := y) hT h1 h3 hr
  refine fin_pure h ?_ (show VR w Z ob (.sv r) z from h5) h6 hr
  simp only [execOp, ho]
  rw [Sem.run_bind, h7]
  rfl
theorem op_unOp (h : RepAt E Γ.N U ob Z s a w) (hg : E.globs = Γ.globs) {op : UnOp} {t : TypeId} {x : Operand} (ho : o.op = .unOp op t x) (hr : (evalOp Γ fresh o).run s = some ws) :
    o.wp P a w (After E Γ.N U fresh s ws) Q := by
  simp only [evalOp, ho] at hr
  obtain ⟨v, h1, h2, hr⟩ := svR_ok h hg hr
  obtain ⟨r, z, hr, h5, h6, h7⟩ := unSV_ok (U := U) (P := P) h1 hr
  refine fin_pure h ?_ (show VR w Z ob (.sv r) z from h5) h6 hr
  simp only [execOp, ho]
  rw [Sem.run_bind, h7]
  rfl
end
end Go.Proofs.YtlamdneheilahaaDoor
