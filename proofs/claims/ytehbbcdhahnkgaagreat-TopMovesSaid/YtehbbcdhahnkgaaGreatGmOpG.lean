/- The ghost machine and the machine: built-in functions, cuts, literals. -/
import Derived.Test.YtehbbcdhahnkgaaGreatGmOpF
import Derived.Laws.IdiomStrings
set_option linter.unusedVariables false
set_option linter.unusedSimpArgs false
namespace Go.Proofs.YtehbbcdhahnkgaaGreat
open Go
section
variable {P : Program} {Γ : Ctx} {E : Env} {N : Nat} {U : Nat → Prop} {ob : Nat → Value} {Z : Nat → Prop} {s : GS} {a : Act} {w : World} {ws : List Wr} {o : Oper} {fresh : Nat} {Q : Exit → Act → World → Prop}

theorem op_append (hT : TysOk P Γ) (h : RepAt E Γ.N U ob Z s a w) (hg : E.globs = Γ.globs) (hf : ∀ j, fresh ≤ j → j < fresh + 4 → ¬ U j) {c : Call} {x y : Operand} (ho : o.op = .call c) (hc : c.callee = .builtin .append) (ha : c.args = #[x, y]) {tx ty : TypeId} (hty : c.argTypes.toList = [tx, ty])
  (hr : (builtinR Γ fresh o .append [x, y] [tx, ty]).run s = some ws) : o.wp P a w (After E Γ.N U fresh s ws) Q := by
 simp only [builtinR] at hr
 replace hr := tyR_ok hr
 obtain ⟨ti, hl, hr⟩ := hr
 have hti := hT _ _ hl
 have hsh := hti.shape
 have hat : c.argTypes = #[tx, ty] := by apply Array.toList_inj.1; rw [hty]
 split at hr
 ·rename_i t htt
  rw [htt] at hsh
  replace hr := tyR_ok hr
  obtain ⟨te, hle, hr⟩ := hr
  have hte := hT _ _ hle
  replace hr := svR_ok h hg hr
  obtain ⟨v, h1, h2, hr⟩ := hr
  replace hr := svR_ok h hg hr
  obtain ⟨u, h3, h4, hr⟩ := hr
  split at hr
  ·rename_i hsame
   have hee := Ty.same_eq hsame
   have base : ∀ (ys : List t.den) (yv : Value), (appBase Γ fresh o v ti.el t te.bytes ys).run s = some ws →
     (∀ (vv : Value) (n : Nat) (xs : List Value), w.ownsRow 0 ti.el t.size vv n xs → (n + ys.length) * te.bytes ≤ 140737488355328 → ∃ v' w' uss, (Builtin.append_ #[tx, ty] o.type #[vv, yv]).run P w = .ok v' w' ∧ All2 (DR w Z t) ys uss ∧ w'.ownsRow 0 ti.el t.size v' (n + ys.length) (xs ++ uss.flatten) ∧ w.grownBy w' vv.ownBlock ∧ (v'.ownBlock = vv.ownBlock ∨ v'.ownBlock = some w.heap.size)) →
     a.eval y = yv → o.wp P a w (After E Γ.N U fresh s ws) Q := by
    intro ys yv hb happ hyv
    have hx : ∀ r w', (Builtin.append_ #[tx, ty] o.type #[a.eval x, yv]).run P w = .ok r w' → (execOp a.eval o).run P w = .ok (.value r) w' := by
     intro r w' hrun
     simp only [execOp, ho, resolve, hc, ha, hat, Sem.run_bind, Sem.run_pure, Result.andThen_ok, invoke, builtin, List.map_toArray, List.map_cons, List.map_nil, hyv, hrun]
    have core : ∀ (old : Option Nat) (xs : List t.den) (ws0 : List Wr), (match old with
       | some id => look id s.objs = some (.row ti.el t xs true) ∧ a.eval x = ob id
       | none => xs = [] ∧ a.eval x = .slice none 0 0) → s.app ws0 = s.gone old → (appR Γ fresh o ti.el t te.bytes xs ys ws0).run s = some ws → o.wp P a w (After E Γ.N U fresh s ws) Q := by
     intro old xs ws0 hold hws hr
     simp only [appR] at hr
     replace hr := run_chk hr
     obtain ⟨hroom, hr⟩ := hr
     simp only [room, decide_eq_true_eq] at hroom
     have hf0 := hf fresh (Nat.le_refl _) (by omega)
     obtain ⟨flat, hown, hx0⟩ : ∃ flat, w.ownsRow 0 ti.el t.size (a.eval x) xs.length flat ∧ ∃ uss0, All2 (DR w Z t) xs uss0 ∧ flat = uss0.flatten := by
      cases old with
      | none => obtain ⟨rfl, e⟩ := hold; rw [e]; exact ⟨[], World.ownsRow_nil _ _ _ _, [], trivial, rfl⟩
      | some id => obtain ⟨hl, e⟩ := hold; rw [e]; obtain ⟨uss0, q1, q2, _⟩ := (h.objs _ _ hl).2.1; exact ⟨_, q2, uss0, q1, rfl⟩
     obtain ⟨v', w', uss, hrun, q1, q2, q3, q4⟩ := happ _ _ _ hown hroom
     have hrep := h.appended (fresh := fresh) (old := old) hf0 hold hx0 q1 q2 q3 (own_slice' hown) q4
     rw [← hws, ← app_snoc] at hrep
     exact fin_val (hx _ _ hrun) hrep (vr (v := .row fresh) (by simp [SR])) (.inr rfl) fresh_in hr
    unfold appBase at hb
    split at hb
    ·exact core none [] [] ⟨rfl, h1⟩ rfl hb
    ·rename_i id
     replace hb := run_obj hb
     obtain ⟨o', hlo, hb⟩ := hb
     split at hb
     ·split at hb
      ·rename_i hcast
       obtain ⟨hq, hy⟩ := tcast_some hcast
       cases hq
       simp only at hy; subst hy
       replace hb := run_cond hb
       obtain ⟨he, hb⟩ := hb
       have he' := Nat.eq_of_beq_eq_true he
       subst he'
       exact core (some id) _ [.obj id none] ⟨hlo, h1⟩ rfl hb
      ·exact run_fail hb
     ·exact run_fail hb
    ·exact run_fail hb
   split at hr
   ·rename_i hb
    have hb' := Nat.eq_of_beq_eq_true hb
    subst hb'
    replace hr := listR_ok h h3 hr
    obtain ⟨ys, hr, h5, _⟩ := hr
    exact base ys _ hr (fun vv n xs hown hroom => run_append (P := P) hsh.1 hte hee o.type vv n xs hown h5 hroom) rfl
   ·replace hr := tyR_ok hr
    obtain ⟨tj, hlj, hr⟩ := hr
    have htj := (hT _ _ hlj).shape
    split at hr
    ·rename_i n
     replace hr := run_chk hr
     obtain ⟨hcc, hr⟩ := hr
     simp only [Bool.and_eq_true, decide_eq_true_eq] at hcc
     rw [Ty.same_eq hcc.1] at htj
     obtain ⟨hv, _⟩ := h3.i64
     have hn : n = ((Int.toNat n : Nat) : Int) := (Int.toNat_of_nonneg hcc.2).symm
     refine base _ _ hr (fun vv m xs hown hroom => ?_) hv
     obtain ⟨v', w', uss, q1, q2, q3, q4, q5⟩ := run_append_zeros (P := P) (Z := Z) hsh.1 htj hte hee o.type vv m xs hown (Int.toNat n) (by simpa using hroom)
     rw [← hn] at q1
     exact ⟨v', w', uss, q1, q2, by simpa using q3, q4, q5⟩
    ·rename_i xs
     split at hr
     ·rename_i ys hcast
      obtain ⟨hq, hyy⟩ := tcast_some hcast
      cases hq
      simp only at hyy; subst hyy
      replace hr := run_chk hr
      obtain ⟨hcc, hr⟩ := hr
      simp only [Bool.and_eq_true] at hcc
      rw [Ty.same_eq hcc.1] at htj
      obtain ⟨hv, _⟩ := h3.str
      exact base _ _ hr (fun vv m zs hown hroom => run_append_str (P := P) (Z := Z) hsh.1 htj hte hee (Nat.eq_of_beq_eq_true hcc.2) o.type vv m zs hown _ hroom) hv
     ·exact run_fail hr
    ·exact run_fail hr
  ·exact run_fail hr
 ·exact run_fail hr

theorem op_min (h : RepAt E Γ.N U ob Z s a w) (hg : E.globs = Γ.globs) {c : Call} {x y : Operand} (ho : o.op = .call c) (hc : c.callee = .builtin .min) (ha : c.args = #[x, y]) {types : List TypeId}
  (hr : (builtinR Γ fresh o .min [x, y] types).run s = some ws) : o.wp P a w (After E Γ.N U fresh s ws) Q := by
 simp only [builtinR] at hr
 replace hr := svR_ok h hg hr
 obtain ⟨v, h1, h2, hr⟩ := hr
 replace hr := svR_ok h hg hr
 obtain ⟨u, h3, h4, hr⟩ := hr
 split at hr
 ·rename_i p q
  obtain ⟨e1, b1⟩ := h1.i64
  obtain ⟨e2, b2⟩ := h3.i64
  refine fin_pure h (v := .int .i64 (if q < p then q else p)) ?_ (vr (v := .data .i64 _) ?_) trivial hr
  ·simp [execOp, ho, resolve, hc, ha, invoke, builtin, Builtin.min_, e1, e2, Builtin.min2]
  ·by_cases hq : q < p
   ·simp only [hq, if_true, decide_true, cond_true]; exact sr_i64 b2.1 b2.2
   ·simp only [hq, if_false, decide_false, cond_false]; exact sr_i64 b1.1 b1.2
 ·rename_i p q
  have e1 := h1.u64
  have e2 := h3.u64
  refine fin_pure h (v := .int .u64 (if (q.toNat : Int) < p.toNat then q.toNat else p.toNat)) ?_ (vr (v := .data .u64 _) ?_) trivial hr
  ·simp [execOp, ho, resolve, hc, ha, invoke, builtin, Builtin.min_, e1, e2, Builtin.min2]
  ·by_cases hq : q < p
   ·rw [if_pos ((u64_lt q p).2 hq)]; simp only [hq, decide_true, cond_true]; exact sr_u64 _
   ·rw [if_neg (fun e => hq ((u64_lt q p).1 e))]; simp only [hq, decide_false, cond_false]; exact sr_u64 _
 ·exact run_fail hr
theorem op_max (h : RepAt E Γ.N U ob Z s a w) (hg : E.globs = Γ.globs) {c : Call} {x y : Operand} (ho : o.op = .call c) (hc : c.callee = .builtin .max) (ha : c.args = #[x, y]) {types : List TypeId}
  (hr : (builtinR Γ fresh o .max [x, y] types).run s = some ws) : o.wp P a w (After E Γ.N U fresh s ws) Q := by
 simp only [builtinR] at hr
 replace hr := svR_ok h hg hr
 obtain ⟨v, h1, h2, hr⟩ := hr
 replace hr := svR_ok h hg hr
 obtain ⟨u, h3, h4, hr⟩ := hr
 split at hr
 ·rename_i p q
  obtain ⟨e1, b1⟩ := h1.i64
  obtain ⟨e2, b2⟩ := h3.i64
  refine fin_pure h (v := .int .i64 (if p < q then q else p)) ?_ (vr (v := .data .i64 _) ?_) trivial hr
  ·simp [execOp, ho, resolve, hc, ha, invoke, builtin, Builtin.max_, e1, e2, Builtin.max2]
  ·by_cases hq : p < q
   ·simp only [hq, if_true, decide_true, cond_true]; exact sr_i64 b2.1 b2.2
   ·simp only [hq, if_false, decide_false, cond_false]; exact sr_i64 b1.1 b1.2
 ·rename_i p q
  have e1 := h1.u64
  have e2 := h3.u64
  refine fin_pure h (v := .int .u64 (if (p.toNat : Int) < q.toNat then q.toNat else p.toNat)) ?_ (vr (v := .data .u64 _) ?_) trivial hr
  ·simp [execOp, ho, resolve, hc, ha, invoke, builtin, Builtin.max_, e1, e2, Builtin.max2]
  ·by_cases hq : p < q
   ·rw [if_pos ((u64_lt p q).2 hq)]; simp only [hq, decide_true, cond_true]; exact sr_u64 _
   ·rw [if_neg (fun e => hq ((u64_lt p q).1 e))]; simp only [hq, decide_false, cond_false]; exact sr_u64 _
 ·exact run_fail hr

theorem optI_ok (h : RepAt E N U ob Z s a w) (hg : E.globs = Γ.globs) {x : Option Operand} {k : Option Int → RT} (hr : (optI Γ x k).run s = some ws) :
  ∃ (n : Option Int) (κ : IntKind), (k n).run s = some ws ∧ x.map a.eval = n.map (fun i => .int κ i) := by
 cases x with
 | none => exact ⟨none, .i64, hr, rfl⟩
 | some x =>
  simp only [optI] at hr
  replace hr := svR_ok h hg hr
  obtain ⟨v, h1, h2, hr⟩ := hr
  split at hr
  ·exact ⟨some _, .i64, hr, by simp [h1.i64.1]⟩
  ·exact ⟨some _, .u8, hr, by simp [h1.u8]⟩
  ·exact ⟨some _, .u64, hr, by simp [h1.u64]⟩
  ·exact run_fail hr
theorem cutR_ok {κ1 κ2 κ3 : IntKind} {n c : Nat} {lo hi mx : Option Int} {k : Nat → Nat → RT} (hc : n ≤ c) (b : Bool) (hr : (cutR n lo hi mx k).run s = some ws) :
  ∃ l h' m : Nat, (k l h').run s = some ws ∧ l ≤ h' ∧ h' ≤ n ∧ h' ≤ m ∧ m ≤ c ∧ (mx = none → m = c) ∧
   (Instr.sliceBounds b n c (lo.map (fun i => .int κ1 i)) (hi.map (fun i => .int κ2 i)) (mx.map (fun i => .int κ3 i))).run P w = .ok (l, h', m) w := by
 unfold cutR at hr
 replace hr := run_chk hr
 obtain ⟨hb, hr⟩ := hr
 simp only [Bool.and_eq_true, decide_eq_true_eq] at hb
 obtain ⟨⟨⟨b1, b2⟩, b3⟩, b4⟩ := hb
 have key : ∀ (κ : IntKind) (v : Int) (y : Nat) (code : BoundsCode), 0 ≤ v → v ≤ y → (Instr.sliceBound (.int κ v) y code).run P w = .ok v.toNat w := by
  intro κ v y code q1 q2
  simp only [Instr.sliceBound, asIntOf, Sem.run_bind, Sem.run_pure, Result.andThen_ok, if_pos (⟨q1, q2⟩ : 0 ≤ v ∧ v ≤ (y : Int))]
 refine ⟨_, _, (match mx with
  | some m => m.toNat
  | none => c), hr, by omega, by omega, ?_, ?_, ?_, ?_⟩
 ·cases mx with
  | none => simp only; omega
  | some m => simp only [Bool.and_eq_true, decide_eq_true_eq] at b4 ⊢; omega
 ·cases mx with
  | none => exact Nat.le_refl _
  | some m => simp only [Bool.and_eq_true, decide_eq_true_eq] at b4 ⊢; omega
 ·intro e; subst e; rfl
 ·cases lo <;> cases hi <;> cases mx <;> simp only [Option.getD_some, Option.getD_none, Bool.and_eq_true, decide_eq_true_eq, Option.isSome_none, Option.isSome_some, Bool.false_eq_true, false_and] at b1 b2 b3 b4 <;>
   simp only [Instr.sliceBounds, Option.map_some, Option.map_none, Sem.run_bind, Sem.run_pure, Result.andThen_ok, Option.getD_some, Option.getD_none, Int.toNat_natCast, Int.toNat_zero]
  case none.some.none => rw [key _ _ _ _ (by omega) (by omega)]; rfl
  case none.some.some => rw [key _ _ _ _ (by omega) (by omega)]; simp only [Result.andThen_ok]; rw [key _ _ _ _ (by omega) (by omega)]; rfl
  case some.none.none => rw [key _ _ _ _ (by omega) (by omega)]; rfl
  case some.some.none => rw [key _ _ _ _ (by omega) (by omega)]; simp only [Result.andThen_ok]; rw [key _ _ _ _ (by omega) (by omega)]; rfl
  case some.some.some => rw [key _ _ _ _ (by omega) (by omega)]; simp only [Result.andThen_ok]; rw [key _ _ _ _ (by omega) (by omega)]; simp only [Result.andThen_ok]; rw [key _ _ _ _ (by omega) (by omega)]; rfl
end
end Go.Proofs.YtehbbcdhahnkgaaGreat
