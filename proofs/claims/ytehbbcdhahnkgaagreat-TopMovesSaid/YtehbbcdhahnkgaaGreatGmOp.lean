/- The ghost machine and the machine: operands, and the operations that read. -/
import Derived.Laws.Externs
import Derived.Test.YtehbbcdhahnkgaaGreatGmRep
import Derived.Test.YtehbbcdhahnkgaaGreatGmInt
set_option linter.unusedVariables false
set_option linter.unusedSimpArgs false
namespace Go.Proofs.YtehbbcdhahnkgaaGreat
open Go

def EOk (P : Program) (e : TypeId) (t : Ty) : Prop := (P.info? e).map (·.size) = some t.size ∧ 0 < t.size ∧ ∃ d, P.underlying e = some d ∧ d.isRow = t.isAgg
inductive FsOk (P : Program) : List Field → Nat → Ty → Prop where
 | nil {off : Nat} : FsOk P [] off .unit
 | cons {f : Field} {fs : List Field} {off : Nat} {a b : Ty} : f.offset = off → EOk P f.type a → FsOk P fs (off + a.size) b → FsOk P (f :: fs) off (.pair a b)
def TSh (P : Program) (i : TypeId) : Ty → Nat → Prop
 | .bool, _ => P.underlying i = some .bool
 | .i64, _ => P.underlying i = some (.int .i64)
 | .u8, _ => P.underlying i = some (.int .u8)
 | .u16, _ => P.underlying i = some (.int .u16)
 | .u32, _ => P.underlying i = some (.int .u32)
 | .u64, _ => P.underlying i = some (.int .u64)
 | .str, _ => P.underlying i = some .string
 | .unit, _ => False
 | .trees, _ => False
 | .sl t, e => P.underlying i = some (.slice e) ∧ EOk P e t
 | .arr n t, e => P.underlying i = some (.array n e) ∧ EOk P e t
 | .pair a b, _ => ∃ fs, P.underlying i = some (.struct fs) ∧ FsOk P fs.toList 0 (.pair a b)
def cmpFs (P : Program) (g : TypeId → Ty → Bool) : List Field → Nat → Ty → Bool
 | [], _, .unit => true
 | f :: fs, off, .pair a b => f.name != "_" && Nat.beq f.offset off && Nat.beq (P.cellsOf f.type) a.size && g f.type a && cmpFs P g fs (off + a.size) b
 | _, _, _ => false
def cmpB (P : Program) : Nat → TypeId → Ty → Bool
 | 0, _, _ => false
 | d + 1, i, t => match P.underlying i, t with
  | some .bool, .bool | some .string, .str => true
  | some (.int .i64), .i64 | some (.int .u8), .u8 | some (.int .u16), .u16 | some (.int .u32), .u32 | some (.int .u64), .u64 => true
  | some (.array n e), .arr m t => Nat.beq n m && Nat.beq (P.cellsOf i) (m * t.size) && Nat.beq (P.cellsOf e) t.size && cmpB P d e t
  | some (.struct fs), .pair a b => Nat.beq (P.cellsOf i) (a.size + b.size) && cmpFs P (cmpB P d) fs.toList 0 (.pair a b)
  | _, _ => false
def cmpT (P : Program) (i : TypeId) (t : Ty) : Bool := cmpB P 12 i t && P.keyTypeAt 12 i && !P.eqGuardType P.depth i
structure TOk (P : Program) (i : TypeId) (ti : TI) : Prop where
 info : (P.info? i).map (fun x => (x.zero, x.size, x.bytes)) = some (some (pk ti.ty (zc ti.ty)), ti.ty.size, ti.bytes)
 pos : 0 < ti.ty.size
 wide : 0 < ti.bytes
 shape : TSh P i ti.ty ti.el
 eqs : ti.cmp = true → cmpT P i ti.ty = true
section
variable {P : Program} {i : TypeId} {ti : TI}
theorem TOk.parts (h : TOk P i ti) : ∃ x, P.info? i = some x ∧ x.zero = some (pk ti.ty (zc ti.ty)) ∧ x.size = ti.ty.size ∧ x.bytes = ti.bytes := by
 have := h.info
 cases hq : P.info? i with
 | none => simp [hq] at this
 | some x => simp [hq] at this; exact ⟨x, rfl, this.1, this.2.1, this.2.2⟩
theorem TOk.size (h : TOk P i ti) : (P.info? i).map (·.size) = some ti.ty.size := by
 obtain ⟨x, h1, _, h3, _⟩ := h.parts
 simp [h1, h3]
theorem TOk.row (h : TOk P i ti) : ∃ d, P.underlying i = some d ∧ d.isRow = ti.ty.isAgg := by
 have hs := h.shape
 cases ht : ti.ty <;> rw [ht] at hs <;> simp only [TSh] at hs
 case sl => exact ⟨_, hs.1, rfl⟩
 case arr => exact ⟨_, hs.1, rfl⟩
 case pair => obtain ⟨fs, h1, _⟩ := hs; exact ⟨_, h1, rfl⟩
 all_goals exact ⟨_, hs, rfl⟩
theorem TOk.eok (h : TOk P i ti) : EOk P i ti.ty := ⟨h.size, h.pos, h.row⟩
end

def TysOk (P : Program) (Γ : Ctx) : Prop := ∀ i ti, look i Γ.tys = some ti → TOk P i ti
structure IfOk (P : Program) (T : IfT) : Prop where
 ptr : ∀ t, T.ptr.any (Nat.beq t ·) = true → EOk P t .i64
 emp : ∀ t, T.emp.any (Nat.beq t ·) = true → ∃ x, P.info? t = some x ∧ x.zero = some (.agg #[]) ∧ P.underlying t = some (.struct #[])
 met : ∀ t n f, metOf t n T.mets = some f → P.underlying t = some (.struct #[]) ∧ ∃ x m, P.info? t = some x ∧ x.methods.find? (·.name == n) = some m ∧ m.path = #[] ∧ m.func = some (f, false)
 nat : ∀ f, T.nat.any (Nat.beq f ·) = true → ∀ (x y c : UInt64) (w : World), c ≤ 1 → (callFunc f #[.int .u64 (x.toNat : Int), .int .u64 (y.toNat : Int), .int .u64 (c.toNat : Int)]).run P w =
  .ok (.value (.tuple #[.int .u64 ((addV x y c).1.toNat : Int), .int .u64 ((addV x y c).2.toNat : Int)])) w
theorem run_natAdd {P : Program} {f : FuncId} {fn : Func} (hf : P.funcs[f]? = some fn) (hname : fn.name = "math/bits.Add64") (horig : fn.origin = "") (hb : fn.body.isNone = true) (x y c : UInt64) (w : World) (hc : c ≤ 1) :
  (callFunc f #[.int .u64 (x.toNat : Int), .int .u64 (y.toNat : Int), .int .u64 (c.toNat : Int)]).run P w =
  .ok (.value (.tuple #[.int .u64 ((addV x y c).1.toNat : Int), .int .u64 ((addV x y c).2.toNat : Int)])) w := by
 have h1 : Extern.findNext fn = none := by
  unfold Extern.findNext
  simp only [hname, horig]
  kernel_rfl
 have h2 : Extern.find fn = some add64Entry := by
  unfold Extern.find
  simp only [hname, horig]
  have e1 : Extern.allGenericRows.lookup "math/bits.Add64" = none := by kernel_rfl
  have e2 : Extern.allTypedRows.lookup "math/bits.Add64" = none := by kernel_rfl
  have e3 : Extern.allRows.lookup "math/bits.Add64" = some add64Entry := by kernel_rfl
  rw [e1, e2, e3]
  rfl
 have hc1 : c.toNat ≤ 1 := hc
 rw [run_callFunc_extern hf (by rw [hname]; decide) hb h1 h2, run_add64 _ _ _ (by omega) (by omega) (by omega) (by omega)]
 have hx := x.toNat_lt
 have hy := y.toNat_lt
 have e1 : ((addV x y c).1.toNat : Int) = ((x.toNat : Int) + y.toNat + c.toNat) % 18446744073709551616 := by
  unfold addV
  simp only [UInt64.toNat_ofNat']
  omega
 have e2 : ((addV x y c).2.toNat : Int) = ((x.toNat : Int) + y.toNat + c.toNat) / 18446744073709551616 := by
  unfold addV
  simp only [UInt64.toNat_ofNat']
  omega
 rw [e1, e2]
 rfl
theorem IfOk.build {P : Program} {Γ : Ctx} {w : World} (h : IfOk P Γ.ifs) {t : Nat} (ht : isEmp Γ t = true) : (Instr.build t #[]).run P w = .ok (.agg #[]) w := by
 obtain ⟨x, h1, h2, h3⟩ := h.emp t ht
 simp [Instr.build, zeroValue, typeInfo, h1, h2, run_underlying h3, Instr.fill, Value.cells]
theorem IfOk.iface {P : Program} {Γ : Ctx} {w : World} (h : IfOk P Γ.ifs) {t : Nat} (ht : isEmp Γ t = true) (v : Value) : (Instr.makeInterface t v).run P w = .ok (.iface t v) w := by
 obtain ⟨x, h1, h2, h3⟩ := h.emp t ht
 simp [Instr.makeInterface, run_underlying h3]
theorem method_emp {P : Program} {w : World} {t : Nat} {n : String} {f : FuncId} (k : Nat) (h0 : P.underlying t = some (.struct #[])) {x : TypeInfo} {m : Method} (h1 : P.info? t = some x) (h2 : x.methods.find? (·.name == n) = some m) (h3 : m.path = #[]) (h4 : m.func = some (f, false)) :
  (method (k + 1) t (.agg #[]) n).run P w = .ok (f, .agg #[]) w := by
 simp only [method, Sem.run_bind, typeInfo, run_program, h1, Result.andThen_ok, Sem.run_pure, h2]
 simp [h3, h4, follow, receiverAt, run_underlying h0, Place.get]
theorem IfOk.call {P : Program} {T : IfT} {w : World} (h : IfOk P T) {t : Nat} {n : String} {f : FuncId} (hm : metOf t n T.mets = some f) (args : Array Value) : (callMethod (.iface t (.agg #[])) n args).run P w = (callFunc f (#[.agg #[]] ++ args)).run P w := by
 obtain ⟨h0, x, m, h1, h2, h3, h4⟩ := h.met t n f hm
 have hk : P.types.size + Made.depth = (P.types.size + 99) + 1 := rfl
 simp only [callMethod, Sem.run_bind, run_program, Result.andThen_ok]
 rw [hk, method_emp _ h0 h1 h2 h3 h4]
 rfl

section
variable {s : GS} {ws : List Wr}
theorem run_get {n : Nat} {k : GV → RT} (h : (RT.get n k).run s = some ws) : ∃ g, look n s.slots = some g ∧ (k g).run s = some ws := by
 simp only [RT.run] at h
 split at h
 ·exact ⟨_, by assumption, h⟩
 ·cases h
theorem run_obj {n : Nat} {k : Ob → RT} (h : (RT.obj n k).run s = some ws) : ∃ g, look n s.objs = some g ∧ (k g).run s = some ws := by
 simp only [RT.run] at h
 split at h
 ·exact ⟨_, by assumption, h⟩
 ·cases h
theorem run_chk {b : Bool} {k : RT} (h : (RT.chk b k).run s = some ws) : b = true ∧ k.run s = some ws := by
 cases b
 ·simp [RT.run] at h
 ·exact ⟨rfl, by simpa [RT.run] using h⟩
theorem run_bind {α : Type} {o : Option α} {k : α → RT} (h : (RT.bind o k).run s = some ws) : ∃ y, o = some y ∧ (k y).run s = some ws := by
 cases o with
 | none => simp [RT.run] at h
 | some y => exact ⟨y, rfl, by simpa [RT.run] using h⟩
theorem run_fail {p : Prop} (h : RT.fail.run s = some ws) : p := by simp [RT.run] at h
theorem run_cond {b : Bool} {x : RT} (h : (bif b then x else .fail).run s = some ws) : b = true ∧ x.run s = some ws := by
 cases b
 ·simp [RT.run] at h
 ·exact ⟨rfl, h⟩
end
theorem cond_some {α : Type} {c : Bool} {x y : α} (h : (bif c then some x else none) = some y) : c = true ∧ x = y := by
 cases c
 ·cases h
 ·exact ⟨rfl, by simpa using h⟩
theorem tcast_some {t' t : Ty} {x : t'.den} {y : t.den} (h : tcast t' t x = some y) : ∃ e : t' = t, e ▸ x = y := by
 unfold tcast at h
 split at h
 ·rename_i hs; cases h; exact ⟨Ty.same_eq hs, rfl⟩
 ·cases h

section
variable {P : Program} {Γ : Ctx} {E : Env} {N : Nat} {U : Nat → Prop} {ob : Nat → Value} {Z : Nat → Prop} {s : GS} {a : Act} {w : World} {ws : List Wr}

theorem vr {v : SV} {u : Value} (h : SR w Z ob v u) : VR w Z ob (.sv v) u := h
theorem constG_ok {v : Value} {g : GV} (h : constG v = some g) : VR w Z ob g v ∧ g.ids U := by
 cases v with
 | bool b => simp [constG] at h; subst h; exact ⟨⟨_, rfl, rfl⟩, trivial⟩
 | int k n =>
  cases k <;> simp only [constG] at h <;> (try cases h)
  all_goals
   obtain ⟨hc, h⟩ := cond_some h
   subst h
   simp only [Bool.and_eq_true, decide_eq_true_eq] at hc
   refine ⟨⟨[.int _ n], ?_, rfl⟩, trivial⟩
   first
    | exact ⟨rfl, hc.1, hc.2⟩
    | (simp only [DR]; congr 2; simp; omega)
 | string b =>
  simp only [constG] at h
  obtain ⟨hc, h⟩ := cond_some h
  subst h
  have := Nat.le_of_ble_eq_true hc
  exact ⟨⟨_, ⟨rfl, by unfold maxLen; omega⟩, rfl⟩, trivial⟩
 | slice A n c =>
  cases A <;> cases n <;> cases c <;> simp [constG] at h
  subst h; exact ⟨rfl, trivial⟩
 | pointer A => cases A <;> simp [constG] at h; subst h; exact ⟨rfl, trivial⟩
 | nilIface => simp [constG] at h; subst h; exact ⟨rfl, trivial⟩
 | _ => simp [constG] at h

theorem opdR_ok (h : RepAt E N U ob Z s a w) (hg : E.globs = Γ.globs) {x : Operand} {k : GV → RT} (hr : (opdR Γ x k).run s = some ws) :
  ∃ g, VR w Z ob g (a.eval x) ∧ g.ids U ∧ (k g).run s = some ws := by
 cases x with
 | tmp n => obtain ⟨g, h1, h2⟩ := run_get hr; exact ⟨g, (h.slots n g h1).2.1, (h.slots n g h1).2.2, h2⟩
 | const v =>
  simp only [opdR] at hr
  split at hr
  ·rename_i g hc; obtain ⟨h1, h2⟩ := constG_ok (w := w) (Z := Z) (ob := ob) (U := U) hc; exact ⟨g, h1, h2, hr⟩
  ·exact run_fail hr
 | func f => exact ⟨.clo f [], ⟨[], rfl, trivial⟩, by simp [GV.ids], hr⟩
 | global g =>
  simp only [opdR] at hr
  split at hr
  ·rename_i d hc; exact ⟨.sv (.fp d.1 d.2), h.globs g d (hg ▸ hc), trivial, hr⟩
  ·exact run_fail hr
theorem svR_ok (h : RepAt E N U ob Z s a w) (hg : E.globs = Γ.globs) {x : Operand} {k : SV → RT} (hr : (svR Γ x k).run s = some ws) :
  ∃ v, SR w Z ob v (a.eval x) ∧ v.ids U ∧ (k v).run s = some ws := by
 obtain ⟨g, h1, h2, h3⟩ := opdR_ok h hg hr
 cases g with
 | sv v => exact ⟨v, h1, h2, h3⟩
 | tup l => exact run_fail h3
 | clo f l => exact run_fail h3
theorem tyR_ok {i : TypeId} {k : TI → RT} (hr : (tyR Γ i k).run s = some ws) : ∃ ti, look i Γ.tys = some ti ∧ (k ti).run s = some ws := by
 simp only [tyR] at hr
 split at hr
 ·exact ⟨_, by assumption, hr⟩
 ·exact run_fail hr

def After (E : Env) (N : Nat) (U : Nat → Prop) (fresh : Nat) (s : GS) (ws : List Wr) : Act → World → Prop := fun a' w' =>
 ∃ ob' Z', RepAt E N (fun j => U j ∨ (fresh ≤ j ∧ j < fresh + 4)) ob' Z' (s.app ws) a' w'
theorem app_snoc (s : GS) (ws : List Wr) (x : Wr) : s.app (ws ++ [x]) = (s.app ws).put x := by simp [GS.app]
theorem app_cons (s : GS) (ws : List Wr) (x : Wr) : s.app (x :: ws) = (s.put x).app ws := rfl
theorem app_append (s : GS) (ws ws' : List Wr) : s.app (ws ++ ws') = (s.app ws).app ws' := by simp [GS.app]
theorem app_nil (s : GS) : s.app [] = s := rfl
variable {o : Oper} {fresh : Nat} {Q : Exit → Act → World → Prop}
theorem fin_val {U' : Nat → Prop} {ob' : Nat → Value} {Z' : Nat → Prop} {w' : World} {v : Value} {g : GV} {ws0 : List Wr} (hx : (execOp a.eval o).run P w = .ok (.value v) w')
  (h' : RepAt E Γ.N U' ob' Z' (s.app ws0) a w') (hv : VR w' Z' ob' g v) (hi : g.ids U') (hU : ∀ j, U' j → U j ∨ (fresh ≤ j ∧ j < fresh + 4)) (hr : (dstR Γ o g ws0).run s = some ws) :
  o.wp P a w (After E Γ.N U fresh s ws) Q := by
 unfold Oper.wp
 rw [hx, Oper.upon_value]
 unfold dstR at hr
 cases hd : o.dst with
 | none => rw [hd] at hr; simp [RT.run] at hr; subst hr; exact ⟨ob', Z', h'.mono hU⟩
 | some d =>
  rw [hd] at hr
  obtain ⟨hb, hr⟩ := run_cond hr
  simp [RT.run] at hr; subst hr
  refine ⟨ob', Z', ?_⟩
  rw [app_snoc]
  exact (h'.slot (Nat.lt_of_lt_of_le (Nat.lt_succ_self d) (Nat.le_of_ble_eq_true hb)) hv hi).mono hU
theorem fin_skip {U' : Nat → Prop} {ob' : Nat → Value} {Z' : Nat → Prop} {w' : World} {ws0 : List Wr} (hx : (execOp a.eval o).run P w = .ok .skip w')
  (h' : RepAt E Γ.N U' ob' Z' (s.app ws0) a w') (hU : ∀ j, U' j → U j ∨ (fresh ≤ j ∧ j < fresh + 4)) (hr : (skipR o ws0).run s = some ws) :
  o.wp P a w (After E Γ.N U fresh s ws) Q := by
 unfold Oper.wp
 rw [hx, Oper.upon_skip]
 unfold skipR at hr
 cases hd : o.dst with
 | none => rw [hd] at hr; simp [RT.run] at hr; subst hr; exact ⟨ob', Z', h'.mono hU⟩
 | some d =>
  rw [hd] at hr
  simp [RT.run] at hr; subst hr
  refine ⟨ob', Z', ?_⟩
  rw [app_snoc]
  exact (h'.noSlot d undef).mono hU
theorem fin_pure {v : Value} {g : GV} (h : RepAt E Γ.N U ob Z s a w) (hx : (execOp a.eval o).run P w = .ok (.value v) w) (hv : VR w Z ob g v) (hi : g.ids U) (hr : (dstR Γ o g []).run s = some ws) :
  o.wp P a w (After E Γ.N U fresh s ws) Q := fin_val hx h hv hi (fun _ h => .inl h) hr

theorem op_move (h : RepAt E Γ.N U ob Z s a w) (hg : E.globs = Γ.globs) {x : Operand} (ho : o.op = .move x ∨ o.op = .assign x) (hr : (opdR Γ x fun g => dstR Γ o g []).run s = some ws) :
  o.wp P a w (After E Γ.N U fresh s ws) Q := by
 obtain ⟨g, h1, h2, h3⟩ := opdR_ok h hg hr
 exact fin_pure h (by rcases ho with ho | ho <;> simp [execOp, ho]) h1 h2 h3

theorem SR.bool {b : Bool} {v : Value} (h : SR w Z ob (.data .bool b) v) : v = .bool b := by obtain ⟨vs, h1, h2⟩ := h; simp only [DR] at h1; subst h1; exact h2
theorem SR.i64 {n : Int} {v : Value} (h : SR w Z ob (.data .i64 n) v) : v = .int .i64 n ∧ -9223372036854775808 ≤ n ∧ n ≤ 9223372036854775807 := by obtain ⟨vs, h1, h2⟩ := h; obtain ⟨h1, h3⟩ := h1; subst h1; exact ⟨h2, h3⟩
theorem SR.u8 {n : UInt8} {v : Value} (h : SR w Z ob (.data .u8 n) v) : v = .int .u8 n.toNat := by obtain ⟨vs, h1, h2⟩ := h; simp only [DR] at h1; subst h1; exact h2
theorem SR.u16 {n : UInt16} {v : Value} (h : SR w Z ob (.data .u16 n) v) : v = .int .u16 n.toNat := by obtain ⟨vs, h1, h2⟩ := h; simp only [DR] at h1; subst h1; exact h2
theorem SR.u32 {n : UInt32} {v : Value} (h : SR w Z ob (.data .u32 n) v) : v = .int .u32 n.toNat := by obtain ⟨vs, h1, h2⟩ := h; simp only [DR] at h1; subst h1; exact h2
theorem SR.u64 {n : UInt64} {v : Value} (h : SR w Z ob (.data .u64 n) v) : v = .int .u64 n.toNat := by obtain ⟨vs, h1, h2⟩ := h; simp only [DR] at h1; subst h1; exact h2
theorem SR.str {x : List UInt8} {v : Value} (h : SR w Z ob (.data .str x) v) : v = .string ⟨x.toArray⟩ ∧ x.length ≤ maxLen := by obtain ⟨vs, h1, h2⟩ := h; obtain ⟨h1, h3⟩ := h1; subst h1; exact ⟨h2, h3⟩
theorem sr_bool (b : Bool) : SR w Z ob (.data .bool b) (.bool b) := ⟨_, rfl, rfl⟩
theorem sr_i64 {n : Int} (h : -9223372036854775808 ≤ n) (h' : n ≤ 9223372036854775807) : SR w Z ob (.data .i64 n) (.int .i64 n) := ⟨_, ⟨rfl, h, h'⟩, rfl⟩
theorem sr_w64 (n : Int) : SR w Z ob (.data .i64 (w64 n)) (.int .i64 (w64 n)) := sr_i64 (w64_range n).1 (w64_range n).2
theorem sr_u8 (n : UInt8) : SR w Z ob (.data .u8 n) (.int .u8 n.toNat) := ⟨_, rfl, rfl⟩
theorem sr_u16 (n : UInt16) : SR w Z ob (.data .u16 n) (.int .u16 n.toNat) := ⟨_, rfl, rfl⟩
theorem sr_u32 (n : UInt32) : SR w Z ob (.data .u32 n) (.int .u32 n.toNat) := ⟨_, rfl, rfl⟩
theorem sr_u64 (n : UInt64) : SR w Z ob (.data .u64 n) (.int .u64 n.toNat) := ⟨_, rfl, rfl⟩
theorem sr_str {x : List UInt8} (h : x.length ≤ maxLen) : SR w Z ob (.data .str x) (.string ⟨x.toArray⟩) := ⟨_, ⟨rfl, h⟩, rfl⟩

theorem op_pick (h : RepAt E Γ.N U ob Z s a w) (hg : E.globs = Γ.globs) {c x y : Operand} (ho : o.op = .pick c x y)
  (hr : (evalOp Γ fresh o).run s = some ws) : o.wp P a w (After E Γ.N U fresh s ws) Q := by
 simp only [evalOp, ho] at hr
 obtain ⟨v, h1, h2, h3⟩ := svR_ok h hg hr
 split at h3
 ·rename_i b
  have hc := h1.bool
  cases b
  ·obtain ⟨g, h4, h5, h6⟩ := opdR_ok h hg h3
   exact fin_pure h (by simp [execOp, ho, hc, asBool]) h4 h5 h6
  ·obtain ⟨g, h4, h5, h6⟩ := opdR_ok h hg h3
   exact fin_pure h (by simp [execOp, ho, hc, asBool]) h4 h5 h6
 ·exact run_fail h3
end
end Go.Proofs.YtehbbcdhahnkgaaGreat
