/- The ghost machine: an evaluator of the program's text over plain data, and its soundness. -/
import Derived.Test.YtehbbcdhahnkgaaGreatHmW
import Derived.Laws.IdiomStrings
import Derived.Lib.ConvBytes
import Derived.Great.BuildSlice
import Derived.Laws.MakeOwn
import Derived.Deep.AppendSrc
set_option linter.unusedVariables false
set_option linter.unusedSimpArgs false
namespace Go.Proofs.YtehbbcdhahnkgaaGreat.Hm
open Go
section
variable {P : Program} {ρ : En} {R : Rng} {m : Mp} {w : World}
theorem eqOp_ok {op : BinOp} {e : Option Bool} {r : HV} (h : eqOp op e = some r) : ∃ b, e = some b ∧ ((op = .eql ∧ r = .b b) ∨ (op = .neq ∧ r = .b (!b))) := by
 unfold eqOp at h
 split at h
 ·obtain ⟨b, h1, h2⟩ := isB_ok h; exact ⟨b, h1, .inl ⟨rfl, h2⟩⟩
 ·obtain ⟨b, h1, h2⟩ := notB_ok h; exact ⟨b, h1, .inr ⟨rfl, h2⟩⟩
 ·cases h
theorem cmpB_formed {d : Nat} {i : TypeId} {t : Ty} {vs : List Value} (h : cmpB P d i t = true) (ht : t.isAgg = true) (hl : vs.length = t.size) : Value.formed P i (.agg vs.toArray) = true := by
 cases d with
 | zero => simp [cmpB] at h
 | succ d =>
  unfold cmpB at h
  split at h <;> simp [Ty.isAgg] at ht <;> rename_i hu
  ·simp only [Bool.and_eq_true] at h
   have h2 := Nat.eq_of_beq_eq_true h.1.1.2
   simp [Value.formed, hu, h2, hl, Ty.size]
  ·simp only [Bool.and_eq_true] at h
   have h2 := Nat.eq_of_beq_eq_true h.1
   simp [Value.formed, hu, h2, hl, Ty.size]
  ·cases h
theorem agg_eq (hR : RngOk ρ R) {i : TypeId} {t : Ty} {cs ds : List HV} {vs us : List Value} {xo yo : Operand} (hc : cmpT P i t = true) (ht : t.isAgg = true) (h1 : fitsT t cs = true) (h2 : fitsT t ds = true) (hx : denL ρ m cs = some vs) (hy : denL ρ m ds = some us) {b : Bool} (hb : cellsEq R cs ds = some b) :
  (do eqGuard .eql i xo yo (.agg vs.toArray) (.agg us.toArray); binOp .eql i (.agg vs.toArray) (.agg us.toArray)).run P w = .ok (.bool b) w ∧ (do eqGuard .neq i xo yo (.agg vs.toArray) (.agg us.toArray); binOp .neq i (.agg vs.toArray) (.agg us.toArray)).run P w = .ok (.bool (!b)) w := by
 simp only [cmpT, Bool.and_eq_true, Bool.not_eq_true'] at hc
 obtain ⟨⟨c1, c2⟩, c3⟩ := hc
 have k1 := keyLits_ok 12 c1 h1 hx
 have k2 := keyLits_ok 12 c1 h2 hy
 have l1 : vs.length = t.size := (denL_length hx).trans (fitsT_length h1)
 have l2 : us.length = t.size := (denL_length hy).trans (fitsT_length h2)
 obtain ⟨r, hr, hiff⟩ := run_equalIn_deep 9988 12 i c2 w 12 12 (.agg vs.toArray) (.agg us.toArray) _ _ (cmpB_formed c1 ht l1) (cmpB_formed c1 ht l2) (by simpa [Value.cells] using k1) (by simpa [Value.cells] using k2)
 have hre : r = b := by
  rw [Bool.eq_iff_iff, hiff]
  exact (cellsEq_ok hR hb).symm
 subst hre
 have g : ∀ op, (eqGuard op i xo yo (.agg vs.toArray) (.agg us.toArray)).run P w = .ok () w := by
  intro op
  unfold eqGuard
  split <;> simp [c3]
 constructor
 ·rw [Sem.run_bind, g, Result.andThen_ok, run_eql_struct, hr]; rfl
 ·rw [Sem.run_bind, g, Result.andThen_ok, run_neq_struct, hr]; rfl
theorem bif_some {α : Type} {c : Bool} {x y : α} (h : (bif c then some x else none) = some y) : x = y := by
 cases c
 ·cases h
 ·exact Option.some.inj h
theorem equalIn_nil (d : Nat) {i : TypeId} {ti : TI} {x y : HV} {xv yv : Value} {b : Bool} (hti : TOk P i ti) (h : nilEq ti.ty x y = some b) (hx : den ρ m x = some xv) (hy : den ρ m y = some yv) :
  (Op.equalIn (d + 1) i xv yv).run P w = .ok b w ∧ (∀ op xo yo, (eqGuard op i xo yo xv yv).run P w = .ok () w) ∧ binOp .eql i xv yv = (do pure (.bool (← Op.equal i xv yv))) ∧ binOp .neq i xv yv = (do pure (.bool (!(← Op.equal i xv yv)))) := by
 have hs := hti.shape
 unfold nilEq at h
 split at h <;> (first | cases h | skip) <;> rename_i ht <;> rw [ht] at hs <;> simp only [TSh] at hs
 all_goals simp only [den] at hx hy
 all_goals (try (split at hx <;> (first | cases hx | skip)))
 all_goals (try (split at hy <;> (first | cases hy | skip)))
 all_goals (try (replace hx := bif_some hx))
 all_goals (try (replace hy := bif_some hy))
 all_goals (try cases hx)
 all_goals (try cases hy)
 all_goals
  refine ⟨?_, fun op xo yo => ?_, rfl, rfl⟩
  ·first
    | (simp [Op.equalIn, run_underlying hs]; done)
    | (obtain ⟨ps, rs, v, hs⟩ := hs; simp [Op.equalIn, run_underlying hs]; done)
  ·unfold eqGuard; split <;> simp
theorem nil_equal {i : TypeId} {ti : TI} {x y : HV} {xv yv : Value} {b : Bool} (hti : TOk P i ti) (h : nilEq ti.ty x y = some b) (hx : den ρ m x = some xv) (hy : den ρ m y = some yv) :
  (Op.equal i xv yv).run P w = .ok b w ∧ (∀ op xo yo, (eqGuard op i xo yo xv yv).run P w = .ok () w) ∧ binOp .eql i xv yv = (do pure (.bool (← Op.equal i xv yv))) ∧ binOp .neq i xv yv = (do pure (.bool (!(← Op.equal i xv yv)))) := equalIn_nil 9999 hti h hx hy
theorem equalIn_bool {t : TypeId} (d : Nat) (hu : P.underlying t = some .bool) (a b : Bool) : (Op.equalIn (d + 1) t (.bool a) (.bool b)).run P w = .ok (a == b) w := by
 simp [Op.equalIn, run_underlying hu]
theorem equal_bool {t : TypeId} (hu : P.underlying t = some .bool) (a b : Bool) : (Op.equal t (.bool a) (.bool b)).run P w = .ok (a == b) w := equalIn_bool 9999 hu a b
theorem binH_ok (hR : RngOk ρ R) {T : Option TI} {op : BinOp} {t : TypeId} {x y r : HV} {xv yv : Value} {xo yo : Operand} (hT : ∀ ti, T = some ti → TOk P t ti) (hx : den ρ m x = some xv) (hy : den ρ m y = some yv) (h : binH R T op x y = some r) :
  BinOk P ρ m w r (do eqGuard op t xo yo xv yv; binOp op t xv yv) := by
 unfold binH at h
 split at h
 ·rename_i k a k' b
  obtain ⟨rfl, ha⟩ := den_int hx
  obtain ⟨rfl, hb⟩ := den_int hy
  exact binI_ok hR ha h
 ·rename_i a b
  simp only [den, Option.some.injEq] at hx hy
  subst hx; subst hy
  obtain ⟨c, h1, h2⟩ := eqOp_ok h
  simp only [Option.some.injEq] at h1
  subst h1
  have hb : ((⟨a.toArray⟩ : ByteArray).toList == (⟨b.toArray⟩ : ByteArray).toList) = decide (a = b) := by
   rw [ByteArray.toList_eq, ByteArray.toList_eq, Bool.eq_iff_iff]; simp
  rcases h2 with ⟨rfl, rfl⟩ | ⟨rfl, rfl⟩
  ·exact ⟨_, by simp only [Sem.run_bind, eqGuard_str, Result.andThen_ok, binOp, Op.stringOp, hb, Sem.run_pure], rfl⟩
  ·exact ⟨_, by simp only [Sem.run_bind, eqGuard_str, Result.andThen_ok, binOp, Op.stringOp, hb, Sem.run_pure], rfl⟩
 ·split at h
  ·rename_i ti
   have hti := hT ti rfl
   unfold binT at h
   split at h
   ·rename_i a b _ _
    cases hb : isBoolT ti.ty <;> rw [hb] at h <;> (try cases h)
    have hs := hti.shape
    have hty : ti.ty = .bool := by cases hq : ti.ty <;> rw [hq] at hb <;> first | rfl | cases hb
    rw [hty] at hs
    simp only [TSh] at hs
    simp only [den, Option.some.injEq] at hx hy
    subst hx; subst hy
    obtain ⟨c, h1, h2⟩ := eqOp_ok h
    simp only [Option.some.injEq] at h1
    subst h1
    have he := equal_bool (w := w) hs a b
    rcases h2 with ⟨rfl, rfl⟩ | ⟨rfl, rfl⟩
    ·exact ⟨_, by simp only [Sem.run_bind, eqGuard_bool, Result.andThen_ok, binOp, he, Sem.run_pure], rfl⟩
    ·exact ⟨_, by simp only [Sem.run_bind, eqGuard_bool, Result.andThen_ok, binOp, he, Sem.run_pure], rfl⟩
   ·rename_i a b _ _
    cases hb : (ti.cmp && ti.ty.isAgg && fitsT ti.ty a && fitsT ti.ty b) <;> rw [hb] at h <;> (try cases h)
    simp only [Bool.and_eq_true] at hb
    obtain ⟨⟨⟨b1, b2⟩, b3⟩, b4⟩ := hb
    obtain ⟨c, h1, h2⟩ := eqOp_ok h
    simp only [den] at hx hy
    split at hx <;> (try cases hx)
    rename_i vs _ hvs
    split at hy <;> (try cases hy)
    rename_i us _ hus
    obtain ⟨e1, e2⟩ := agg_eq (P := P) (w := w) (xo := xo) (yo := yo) hR (hti.eqs b1) b2 b3 b4 hvs hus h1
    rcases h2 with ⟨rfl, rfl⟩ | ⟨rfl, rfl⟩
    ·exact ⟨_, e1, rfl⟩
    ·exact ⟨_, e2, rfl⟩
   ·obtain ⟨c, h1, h2⟩ := eqOp_ok h
    obtain ⟨e1, e2, e3, e4⟩ := nil_equal (P := P) (w := w) hti h1 hx hy
    rcases h2 with ⟨rfl, rfl⟩ | ⟨rfl, rfl⟩
    ·exact ⟨_, by rw [Sem.run_bind, e2, Result.andThen_ok, e3, Sem.run_bind, e1]; rfl, rfl⟩
    ·exact ⟨_, by rw [Sem.run_bind, e2, Result.andThen_ok, e4, Sem.run_bind, e1]; rfl, rfl⟩
  ·cases h
theorem unH_ok {op : UnOp} {x r : HV} {xv : Value} (hx : den ρ m x = some xv) (h : unH op x = some r) : ∃ z, (Op.unary op xv).run P w = .ok z w ∧ den ρ m r = some z := by
 unfold unH at h
 split at h
 ·cases h
  simp only [den, Option.some.injEq] at hx
  subst hx
  exact ⟨_, by simp [Op.unary], rfl⟩
 ·rename_i k a
  cases h
  obtain ⟨rfl, _⟩ := den_int hx
  exact ⟨.int k (k.wrap (0 - a)), by simp [Op.unary, Op.intArith, IV.ev], den_int' (x := .lit _) (wrap_in _ _)⟩
 ·rename_i k a
  split at h
  ·rename_i n hn
   cases h
   obtain ⟨rfl, _⟩ := den_int hx
   obtain ⟨h2, h3⟩ := bits_lit (P := P) (w := w) (.inr (.inr (.inl rfl))) hn
   refine ⟨.int k n, ?_, den_int' (x := .lit _) h3⟩
   have e : (bif k.signed then (-1 : Int) else k.max) = (if k.signed then -1 else k.max) := by cases k.signed <;> rfl
   rw [e] at h2
   simpa [Op.unary, IV.ev] using h2
  ·cases h
 ·cases h
theorem convI_ok (hR : RngOk ρ R) {k : IntKind} {x r : IV} (h : convI R k x = some r) : k.wrap (x.ev ρ) = r.ev ρ ∧ inKind k (r.ev ρ) = true := by
 unfold convI at h
 split at h
 ·cases h; exact ⟨rfl, wrap_in _ _⟩
 ·split at h
  ·rename_i i c q hq
   cases hb : fits k q <;> rw [hb] at h <;> cases h
   have := fits_ok hR hq hb
   exact ⟨wrap_id this, this⟩
  ·cases h
end
section
variable {P : Program} {Γ : Ctx} {ρ : En} {N : Nat} {S : Sl} {H : Hp} {m : Mp} {a : Act} {w : World} {o : Oper} {U : Nat → Prop} {fresh : Nat} {r : List Wr × Nat} {Q : Exit → Act → World → Prop}

theorem run_isAgg {e : TypeId} {t : Ty} (h : EOk P e t) : (isAgg e).run P w = .ok t.isAgg w := by
 obtain ⟨_, _, d, hu, hd⟩ := h
 unfold isAgg
 rw [Sem.run_bind, run_underlying hu w, ← hd]
 cases d <;> simp [TypeDesc.isRow]
theorem run_sizeOf {e : TypeId} {t : Ty} (h : EOk P e t) : (sizeOf e).run P w = .ok t.size w := by
 obtain ⟨h, _⟩ := h
 cases hq : P.info? e with
 | none => simp [hq] at h
 | some i => simp [hq] at h; simp [sizeOf, typeInfo, hq, h]
theorem run_part {e : TypeId} {t : Ty} {vs : List Value} {off : Nat} (he : EOk P e t) (hl : off + t.size ≤ vs.length) :
  (part e vs.toArray off).run P w = .ok (pk t ((vs.drop off).take t.size)) w := by
 unfold part
 rw [Sem.run_bind, run_isAgg he]
 simp only [Result.andThen_ok]
 unfold pk
 cases ha : t.isAgg with
 | true =>
  simp only [if_true, Sem.run_bind, run_sizeOf he, Result.andThen_ok, Sem.run_pure]
  congr 2
  apply Array.toList_inj.1
  simp only [Array.toList_extract, List.extract_eq_take_drop]
  rw [Nat.add_sub_cancel_left]
 | false =>
  have hsz : t.size = 1 := by cases t <;> first | rfl | cases ha
  simp only [Bool.false_eq_true, if_false]
  have hlt : off < vs.length := by omega
  rw [List.getElem?_toArray, List.getElem?_eq_getElem hlt]
  simp only [Sem.run_pure, hsz]
  rw [List.drop_eq_getElem_cons hlt]
  rfl
theorem FsOk.at_ {fs : List Field} {off : Nat} {t : Ty} (h : FsOk P fs off t) : ∀ {k : Nat} {u : Ty}, fldTy t k = some u → ∃ f, fs[k]? = some f ∧ f.offset = off + fldOff t k ∧ EOk P f.type u := by
 induction h with
 | nil => intro k u hu; simp [fldTy] at hu
 | cons h1 h2 h3 ih =>
  intro k u hu
  cases k with
  | zero => simp only [fldTy] at hu; cases hu; exact ⟨_, rfl, by simpa [fldOff] using h1, h2⟩
  | succ k =>
   simp only [fldTy] at hu
   obtain ⟨f, h4, h5, h6⟩ := ih hu
   exact ⟨f, by simpa using h4, by simp only [fldOff]; omega, h6⟩
theorem fldTy_pair {t : Ty} {k : Nat} {u : Ty} (h : fldTy t k = some u) : ∃ a b, t = .pair a b := by
 cases t with
 | pair a b => exact ⟨a, b, rfl⟩
 | _ => simp [fldTy] at h

theorem op_move (h : Rep P ρ N S H m a w) (hU : ∀ id, m id ≠ none → U id) (hd : ∀ d, o.dst = some d → d < N) {x : Operand} (ho : o.op = .move x ∨ o.op = .assign x) (hr : (opdR x fun v => dstR o v [] fresh).run S H = some r) :
  o.wp P a w (After P ρ N U fresh S H m r) Q := by
 obtain ⟨v, h1, h2⟩ := opdR_ok h hr
 exact fin_pure h hU hd (by rcases ho with ho | ho <;> simp [execOp, ho]) h1 h2
theorem op_pick (h : Rep P ρ N S H m a w) (hU : ∀ id, m id ≠ none → U id) (hd : ∀ d, o.dst = some d → d < N) {c x y : Operand} (ho : o.op = .pick c x y) (hr : (opdR c (evPick fresh o x y)).run S H = some r) :
  o.wp P a w (After P ρ N U fresh S H m r) Q := by
 obtain ⟨v, h1, h2⟩ := opdR_ok h hr
 unfold evPick at h2
 split at h2
 ·rename_i t
  simp only [den, Option.some.injEq] at h1
  cases t
  ·obtain ⟨v, h3, h4⟩ := opdR_ok h h2
   exact fin_pure h hU hd (by simp [execOp, ho, ← h1, asBool]) h3 h4
  ·obtain ⟨v, h3, h4⟩ := opdR_ok h h2
   exact fin_pure h hU hd (by simp [execOp, ho, ← h1, asBool]) h3 h4
 ·exact run_fail h2
theorem op_nilCheck (h : Rep P ρ N S H m a w) (hU : ∀ id, m id ≠ none → U id) (hd : ∀ d, o.dst = some d → d < N) {x : Operand} (ho : o.op = .nilCheck x) (hr : (opdR x (evNilCheck fresh o)).run S H = some r) :
  o.wp P a w (After P ρ N U fresh S H m r) Q := by
 obtain ⟨v, h1, h2⟩ := opdR_ok h hr
 unfold evNilCheck at h2
 split at h2
 ·have h1' := h1
  simp only [den] at h1'
  split at h1' <;> (try cases h1')
  exact fin_pure h hU hd (v := a.eval x) (by simp only [Option.some.injEq] at h1'; simp [execOp, ho, ← h1']) h1 h2
 ·have h1' := h1
  simp only [den] at h1'
  split at h1' <;> (try cases h1')
  exact fin_pure h hU hd (v := a.eval x) (by simp only [Option.some.injEq] at h1'; simp [execOp, ho, ← h1']) h1 h2
 ·exact run_fail h2
theorem op_binOp (hT : TysOk P Γ.tys) (hR : RngOk ρ Γ.R) (h : Rep P ρ N S H m a w) (hU : ∀ id, m id ≠ none → U id) (hd : ∀ d, o.dst = some d → d < N) {op : BinOp} {t yt : TypeId} {x y : Operand} (ho : o.op = .binOp op t x y yt)
  (hr : (opdR x fun v => opdR y fun u => optR 21 (binH Γ.R (Γ.tys.get t) op v u) fun r => dstR o r [] fresh).run S H = some r) : o.wp P a w (After P ρ N U fresh S H m r) Q := by
 replace hr := opdR_ok h hr
 obtain ⟨v, h1, hr⟩ := hr
 replace hr := opdR_ok h hr
 obtain ⟨u, h2, hr⟩ := hr
 replace hr := run_optR hr
 obtain ⟨z, h3, hr⟩ := hr
 obtain ⟨q, h4, h5⟩ := binH_ok (P := P) (w := w) (xo := x) (yo := y) hR (fun ti hti => hT t ti hti) h1 h2 h3
 refine fin_pure h hU hd ?_ h5 hr
 simp only [execOp, ho]
 rw [Sem.run_bind, h4]
 rfl
theorem op_unOp (h : Rep P ρ N S H m a w) (hU : ∀ id, m id ≠ none → U id) (hd : ∀ d, o.dst = some d → d < N) {op : UnOp} {t : TypeId} {x : Operand} (ho : o.op = .unOp op t x)
  (hr : (opdR x fun v => optR 22 (unH op v) fun r => dstR o r [] fresh).run S H = some r) : o.wp P a w (After P ρ N U fresh S H m r) Q := by
 replace hr := opdR_ok h hr
 obtain ⟨v, h1, hr⟩ := hr
 replace hr := run_optR hr
 obtain ⟨z, h3, hr⟩ := hr
 obtain ⟨q, h4, h5⟩ := unH_ok (P := P) (w := w) h1 h3
 refine fin_pure h hU hd ?_ h5 hr
 simp only [execOp, ho]
 rw [Sem.run_bind, h4]
 rfl
theorem op_extract (h : Rep P ρ N S H m a w) (hU : ∀ id, m id ≠ none → U id) (hd : ∀ d, o.dst = some d → d < N) {x : Operand} {i : Nat} (ho : o.op = .extract x i) (hr : (opdR x (evExtract fresh o i)).run S H = some r) :
  o.wp P a w (After P ρ N U fresh S H m r) Q := by
 replace hr := opdR_ok h hr
 obtain ⟨v, h1, hr⟩ := hr
 unfold evExtract at hr
 split at hr
 ·rename_i l
  replace hr := run_optR hr
  obtain ⟨v, h3, hr⟩ := hr
  simp only [den] at h1
  split at h1 <;> (try cases h1)
  rename_i vs hvs
  obtain ⟨z, h4, h5⟩ := denL_get hvs i v h3
  simp only [Option.some.injEq] at h1
  refine fin_pure h hU hd ?_ h5 hr
  simp [execOp, ho, ← h1, Instr.extract, h4]
 ·exact run_fail hr
theorem op_makeFunc (h : Rep P ρ N S H m a w) (hU : ∀ id, m id ≠ none → U id) (hd : ∀ d, o.dst = some d → d < N) {fn : Fn} {fs cs : Array Operand} (ho : o.op = .makeFunc fn fs cs) (hr : (evFunc fresh o fs cs fn).run S H = some r) :
  o.wp P a w (After P ρ N U fresh S H m r) Q := by
 unfold evFunc at hr
 split at hr
 ·replace hr := opdsR_ok h hr
  obtain ⟨vs, h1, hr⟩ := hr
  replace hr := opdsR_ok h hr
  obtain ⟨us, h2, hr⟩ := hr
  rename_i f
  have e : ∀ l : Array Operand, (List.map a.eval l.toList).toArray = l.map a.eval := fun l => by apply Array.ext'; simp
  refine fin_pure h hU hd (v := .func (.func f) (fs.map a.eval) (cs.map a.eval)) ?_ (by simp only [den, h1, h2, e]) hr
  simp [execOp, ho, Instr.makeFunc]
 ·exact run_fail hr
theorem op_field (hT : TysOk P Γ.tys) (h : Rep P ρ N S H m a w) (hU : ∀ id, m id ≠ none → U id) (hd : ∀ d, o.dst = some d → d < N) {t : TypeId} {x : Operand} {f : Nat} (ho : o.op = .field t x f)
  (hr : (tyR Γ t fun ti => opdR x (evField fresh o ti f)).run S H = some r) : o.wp P a w (After P ρ N U fresh S H m r) Q := by
 replace hr := tyR_ok hT hr
 obtain ⟨ti, hti, hr⟩ := hr
 replace hr := opdR_ok h hr
 obtain ⟨v, h1, hr⟩ := hr
 unfold evField at hr
 split at hr
 ·rename_i cs
  split at hr
  ·rename_i u hu
   replace hr := run_bif hr
   obtain ⟨hb, hr⟩ := hr
   replace hr := run_optR hr
   obtain ⟨z, h3, hr⟩ := hr
   obtain ⟨A, B, hty⟩ := fldTy_pair hu
   have hs := hti.shape
   rw [hty] at hs
   obtain ⟨fs, hfu, hfs⟩ := hs
   rw [← hty] at hfs
   obtain ⟨fl, h4, h5, h6⟩ := hfs.at_ hu
   simp only [den] at h1
   split at h1 <;> (try cases h1)
   rename_i vs hall hvs
   simp only [Option.some.injEq] at h1
   have hle := inside_le hb
   rw [← denL_length hvs] at hle
   refine fin_pure h hU hd ?_ (den_valOf h3 (denL_cut _ _ hvs) (all_cut _ _ hall)) hr
   have hp := run_part (P := P) (w := w) (off := fl.offset) h6 (by rw [h5, Nat.zero_add]; exact hle)
   simp only [execOp, ho, Instr.field, Sem.run_bind, run_underlying hfu, Result.andThen_ok, ← h1, asAgg, Sem.run_pure]
   rw [show fs[f]? = some fl by rw [← Array.getElem?_toList]; exact h4]
   rw [h5, Nat.zero_add] at hp
   simp only [Sem.run_bind, Sem.run_pure, Result.andThen_ok, h5, Nat.zero_add, hp]
  ·exact run_fail hr
 ·exact run_fail hr
theorem litN_ok {v : HV} {n : Nat} {x : Value} (h : litN v = some n) (hv : den ρ m v = some x) : ∃ k, x = .int k (n : Int) := by
 unfold litN at h
 split at h
 ·rename_i k i
  cases hb : decide (0 ≤ i) <;> rw [hb] at h <;> cases h
  rw [decide_eq_true_eq] at hb
  obtain ⟨rfl, _⟩ := den_int hv
  exact ⟨k, by simp only [IV.ev]; rw [Int.toNat_of_nonneg hb]⟩
 ·cases h
theorem litR_ok (hR : RngOk ρ Γ.R) {v : HV} {n : Nat} {x : Value} (h : litR Γ v = some n) (hv : den ρ m v = some x) : ∃ k, x = .int k (n : Int) := by
 unfold litR at h
 split at h
 ·rename_i k i c
  split at h
  ·rename_i r hr
   cases hb : (decide (r.1 = r.2) && decide (0 ≤ r.1)) <;> rw [hb] at h <;> cases h
   simp only [Bool.and_eq_true, decide_eq_true_eq] at hb
   have h2 := bnd_ok hR hr
   obtain ⟨rfl, _⟩ := den_int hv
   refine ⟨k, ?_⟩
   rw [Int.toNat_of_nonneg hb.2]
   congr 1; omega
  ·cases h
 ·exact litN_ok h hv
theorem op_index (hT : TysOk P Γ.tys) (h : Rep P ρ N S H m a w) (hU : ∀ id, m id ≠ none → U id) (hd : ∀ d, o.dst = some d → d < N) {t : TypeId} {x i : Operand} (ho : o.op = .index t x i)
  (hr : (tyR Γ t fun ti => opdR x fun v => opdR i fun u => optR 45 (litN u) fun i => evIndex fresh o ti i v).run S H = some r) : o.wp P a w (After P ρ N U fresh S H m r) Q := by
 replace hr := tyR_ok hT hr
 obtain ⟨ti, hti, hr⟩ := hr
 replace hr := opdR_ok h hr
 obtain ⟨v, h1, hr⟩ := hr
 replace hr := opdR_ok h hr
 obtain ⟨u, h2, hr⟩ := hr
 replace hr := run_optR hr
 obtain ⟨n, h3, hr⟩ := hr
 obtain ⟨kd, hi⟩ := litN_ok h3 h2
 have hs := hti.shape
 unfold evIndex at hr
 split at hr
 ·rename_i cs
  split at hr
  ·rename_i len u hty
   replace hr := run_bif hr
   obtain ⟨hb, hr⟩ := hr
   simp only [Bool.and_eq_true] at hb
   replace hr := run_optR hr
   obtain ⟨z, h4, hr⟩ := hr
   rw [hty] at hs
   obtain ⟨hu, he⟩ := hs
   simp only [den] at h1
   split at h1 <;> (try cases h1)
   rename_i vs hall hvs
   simp only [Option.some.injEq] at h1
   have hle := inside_le hb.2
   rw [← denL_length hvs] at hle
   have hn : n < len := Nat.le_of_ble_eq_true hb.1
   refine fin_pure h hU hd ?_ (den_valOf h4 (denL_cut _ _ hvs) (all_cut _ _ hall)) hr
   have hp := run_part (P := P) (w := w) (off := n * u.size) he hle
   have c : (0 : Int) ≤ (n : Int) ∧ (n : Int) < (len : Int) := ⟨by omega, by omega⟩
   simp only [execOp, ho, ← h1, hi, Instr.index, asIntOf, Sem.run_bind, Sem.run_pure, Result.andThen_ok, run_underlying hu, if_pos c, run_sizeOf he, Int.toNat_natCast, hp]
  ·exact run_fail hr
 ·rename_i bs
  split at hr
  ·rename_i b hb
   cases hty : isStrT ti.ty <;> rw [hty] at hr
   ·exact run_fail hr
   simp only [cond_true] at hr
   have hty' : ti.ty = .str := by cases hq : ti.ty <;> rw [hq] at hty <;> first | rfl | cases hty
   rw [hty'] at hs
   simp only [TSh] at hs
   simp only [den, Option.some.injEq] at h1
   have hlt : n < bs.length := (List.getElem?_eq_some_iff.1 hb).1
   have hbv := (List.getElem?_eq_some_iff.1 hb).2
   have e : (⟨bs.toArray⟩ : ByteArray)[(n : Int).toNat]? = some b := by
    rw [Int.toNat_natCast]
    have hk2 : n < (⟨bs.toArray⟩ : ByteArray).size := by simpa [ByteArray.size] using hlt
    rw [getElem?_pos (⟨bs.toArray⟩ : ByteArray) n hk2]
    exact congrArg some (show bs.toArray[n] = b by simpa using hbv)
   have hin : inKind .u8 (b.toNat : Int) = true := by
    rw [inKind_iff, show IntKind.u8.min = 0 from rfl, show IntKind.u8.max = 255 from rfl]
    have := b.toNat_lt
    omega
   refine fin_pure h hU hd (v := .int .u8 (b.toNat : Int)) ?_ (den_int' (x := .lit _) hin) hr
   simp only [execOp, ho, ← h1, hi, Instr.index, asIntOf, Sem.run_bind, Sem.run_pure, Result.andThen_ok, run_underlying hs, if_pos (show (0 : Int) ≤ (n : Int) by omega), e]
  ·exact run_fail hr
 ·exact run_fail hr
end
end Go.Proofs.YtehbbcdhahnkgaaGreat.Hm

namespace Go.Proofs.YtehbbcdhahnkgaaGreat.Hm
open Go
theorem putV_append {xs ys post : List Value} {o : Nat} (h : o + ys.length ≤ xs.length) : putV (xs ++ post) o ys = putV xs o ys ++ post := by
 unfold putV
 rw [List.take_append_of_le_length (by omega), List.drop_append_of_le_length h, List.append_assoc, List.append_assoc, List.append_assoc]
theorem one_cells {ρ : En} {m : Mp} : ∀ {l : List HV} {xs : List Value}, denL ρ m l = some xs → l.all HV.one = true → ∀ u ∈ xs, u.oneCell' = true
 | [], xs, h, _, u, hu => by simp only [denL] at h; cases h; simp at hu
 | v :: l, xs, h, ho, u, hu => by
  obtain ⟨x, ys, h1, h2, rfl⟩ := denL_cons h
  simp only [List.all_cons, Bool.and_eq_true] at ho
  rcases List.mem_cons.1 hu with rfl | hu
  ·exact (one_cell h1 ho.1).1
  ·exact one_cells h2 ho.2 u hu
section
variable {P : Program} {Γ : Ctx} {ρ : En} {N : Nat} {S : Sl} {H : Hp} {m : Mp} {a : Act} {w : World} {o : Oper} {U : Nat → Prop} {fresh : Nat} {r : List Wr × Nat} {Q : Exit → Act → World → Prop}

theorem put_length {l new : List HV} {o : Nat} (h : o + new.length ≤ l.length) : (putAt l o new).length = l.length := by
 rw [putAt_eq l o new (by omega)]; simp only [List.length_append, List.length_take, List.length_drop]; omega
theorem HRep.put (h : HRep P ρ H m w) {id el : Nat} {cs : List HV} {op : Bool} (hi : H id = some (.cells el cs op)) {k : Nat} {new : List HV} {ys : List Value} (hd : denL ρ m new = some ys) (h1 : new.all HV.one = true) (hk : k + new.length ≤ cs.length) :
  ∃ b s vs post, m id = some (b, s) ∧ denL ρ m cs = some vs ∧ w.heap[b]? = some (.cells (vs ++ post).toArray el (0, 0)) ∧ HRep P ρ (upd H id (some (.cells el (putAt cs k new) op))) m (w.setRow b (putV (vs ++ post) k ys).toArray) := by
 obtain ⟨b, s, vs, post, q1, q2, q3, q4, q5, q6, q7⟩ := h.objs id _ hi
 refine ⟨b, s, vs, post, q1, q2, q4, h.write hi q1 (fun j hj => Go.setRow_other w b j _ hj) ?_ ⟨rfl, rfl, rfl⟩ rfl⟩
 have hyl := denL_length hd
 have hvl := denL_length q2
 refine ⟨b, s, putV vs k ys, post, q1, denL_put q2 hd (by omega), all_putAt q3 h1 (by omega), ?_, q5, q6, by rw [put_length (by omega)]; exact q7⟩
 rw [putV_append (by omega)]
 exact Go.setRow_heap w b _ _ el (0, 0) q4
theorem HRep.newCells (h : HRep P ρ H m w) {id el : Nat} {cs : List HV} {vs : List Value} (hn : m id = none) (hd : denL ρ m cs = some vs) (h1 : cs.all HV.one = true) :
  HRep P ρ (upd H id (some (.cells el cs false))) (m.set id w.heap.size 0) (w.alloc (.cells vs.toArray el)) := by
 refine h.new hn (fun k hk => Go.heap_alloc_old w _ k hk) (Nat.le_refl _) ?_ ⟨rfl, rfl, rfl⟩
 exact ⟨w.heap.size, 0, vs, [], Mp.set_same _ _ _ _, denL_mono (Mp.le_set hn) hd, h1, by rw [List.append_nil]; exact Go.heap_alloc_new w _, by simp, fun _ => rfl, .inl rfl⟩
theorem dom_set {id b s nx : Nat} (hU : ∀ id, m id ≠ none → U id) (h1 : fresh ≤ id) (h2 : id < nx) : ∀ k, m.set id b s k ≠ none → U k ∨ (fresh ≤ k ∧ k < nx) := by
 intro k hk
 by_cases e : k = id
 ·subst e; exact .inr ⟨h1, h2⟩
 ·exact .inl (hU k (by simpa [Mp.set, e] using hk))
theorem dst_nx {v : HV} {ws : List Wr} {nx : Nat} (h : (dstR o v ws nx).run S H = some r) : r.2 = nx := by
 unfold dstR at h
 cases hd : o.dst with
 | none => rw [hd] at h; rw [run_fin h]
 | some d =>
  rw [hd] at h
  have h : (forceV v fun v => RT.fin (.slot d (some v) :: ws) nx).run S H = some r := h
  rw [forceV_eq] at h
  rw [run_fin h]
theorem fresh_none (hU : ∀ id, m id ≠ none → U id) {id : Nat} (h : ¬ U id) : m id = none := by
 cases hq : m id with
 | none => rfl
 | some q => exact absurd (hU id (by rw [hq]; simp)) h

theorem run_loadAt {e : TypeId} {t : Ty} {b off el : Nat} {fr : Nat × Nat} {arr : List Value} (he : EOk P e t) (hg : w.heap[b]? = some (.cells arr.toArray el fr)) (hl : off + t.size ≤ arr.length) :
  (Instr.loadAt e (.pointer (some ⟨b, off, none⟩))).run P w = .ok (pk t ((arr.drop off).take t.size)) w := by
 have hc : ∀ j u, ((arr.drop off).take t.size)[j]? = some u → w.cell? ⟨b, off + j, none⟩ = some u := by
  intro j u hu
  rw [cell_of_row w b _ _ el fr hg]
  rw [List.getElem?_take] at hu
  split at hu
  ·rw [List.getElem?_drop] at hu; simpa using hu
  ·cases hu
 have hlen : ((arr.drop off).take t.size).length = t.size := by simp only [List.length_take, List.length_drop]; omega
 unfold pk
 cases ha : t.isAgg with
 | true =>
  obtain ⟨h1, _, d, hu, hdr⟩ := id he
  simp only [if_true]
  exact run_loadAt_mid w b off e _ d hc hu (hdr.trans ha) (by rw [h1, hlen])
 | false =>
  have hsz : t.size = 1 := by cases t <;> first | rfl | cases ha
  rw [hsz] at hlen hc
  obtain ⟨v, hv⟩ := List.length_eq_one_iff.1 hlen
  have := hc 0 v (by rw [hv]; rfl)
  rw [Nat.add_zero] at this
  rw [hsz, hv]
  simp only [Instr.loadAt, Instr.sureAddr, loadVar, Sem.run_bind, Sem.run_pure, Result.andThen_ok, run_isAgg he, ha, Bool.false_eq_true, if_false, Go.run_load, this]
  rfl
theorem run_storeAt {e : TypeId} {t : Ty} {b off el : Nat} {arr us : List Value} {x : Value} (he : EOk P e t) (hg : w.heap[b]? = some (.cells arr.toArray el (0, 0))) (hx : x.cells.toList = us) (hu : us.length = t.size) (h1 : ∀ u ∈ us, u.oneCell' = true) (hl : off + us.length ≤ arr.length) :
  (Instr.storeAt e (.pointer (some ⟨b, off, none⟩)) x).run P w = .ok () (w.setRow b (putV arr off us).toArray) := by
 have hst := run_storeCells_at P b off el us 0 arr.toArray w hg (by simpa using hl) (fun v hv => h1 v hv)
 simp only [Nat.add_zero] at hst
 have hsz : x.cells.size = t.size := by rw [← Array.length_toList, hx, hu]
 simp only [Instr.storeAt, Instr.sureAddr, storeVar, Sem.run_bind, Sem.run_pure, Result.andThen_ok, run_sizeOf he, hsz, ne_eq, not_true_eq_false, if_false, hx]
 exact hst
theorem den_p {id off : Nat} {x : Value} (h : den ρ m (.p id off) = some x) : ∃ q, m id = some q ∧ x = .pointer (some ⟨q.1, off, none⟩) := by
 simp only [den] at h
 split at h
 ·rename_i q hq; cases h; exact ⟨q, hq, rfl⟩
 ·cases h
theorem op_load (hT : TysOk P Γ.tys) (hR : RngOk ρ Γ.R) (h : Rep P ρ N S H m a w) (hU : ∀ id, m id ≠ none → U id) (hd : ∀ d, o.dst = some d → d < N) {t : TypeId} {x : Operand} (ho : o.op = .load t x)
  (hr : (tyR Γ t fun ti => opdR x (evLoad2 Γ fresh o ti.ty)).run S H = some r) : o.wp P a w (After P ρ N U fresh S H m r) Q := by
 replace hr := tyR_ok hT hr
 obtain ⟨ti, hti, hr⟩ := hr
 replace hr := opdR_ok h hr
 obtain ⟨v, h1, hr⟩ := hr
 unfold evLoad2 at hr
 split at hr
 ·rename_i j i
  replace hr := run_bif hr
  obtain ⟨hu8, hr⟩ := hr
  replace hr := run_optR hr
  obtain ⟨s, hs, hr⟩ := hr
  obtain ⟨b, o', n, c, arr, el, fr, q1, q2, q3, q4, q5⟩ := hR.kb j i s hs
  simp only [den, q1] at h1
  have he : Value.pointer (some ⟨b, o' + (i.ev ρ).toNat, none⟩) = a.eval x := by
   cases hb : (decide (0 ≤ i.ev ρ) && decide (i.ev ρ < n)) with
   | false => rw [hb] at h1; cases h1
   | true => rw [hb] at h1; exact Option.some.inj h1
  have hbl : b < ρ.base.heap.size := (Array.getElem?_eq_some_iff.1 q2).1
  have q2' : w.heap[b]? = some (.cells arr.toList.toArray el fr) := by rw [h.heap.keep.block b hbl, q2]
  have hty : ti.ty = .int .u8 := by
   unfold isU8 at hu8
   split at hu8
   ·assumption
   ·cases hu8
  have hlt : o' + (i.ev ρ).toNat < arr.size := (Array.getElem?_eq_some_iff.1 q3).1
  have hrun := run_loadAt (off := o' + (i.ev ρ).toNat) (P := P) hti.eok q2' (by rw [hty, Array.length_toList]; show _ + 1 ≤ _; omega)
  have hpk : pk ti.ty ((arr.toList.drop (o' + (i.ev ρ).toNat)).take ti.ty.size) = .int .u8 (s.ev ρ) := by
   rw [hty]
   show pk (.int .u8) ((arr.toList.drop (o' + (i.ev ρ).toNat)).take 1) = _
   have q3' : arr.toList[o' + (i.ev ρ).toNat]? = some (.int .u8 (s.ev ρ)) := by rw [Array.getElem?_toList]; exact q3
   have hd : arr.toList.drop (o' + (i.ev ρ).toNat) = .int .u8 (s.ev ρ) :: arr.toList.drop (o' + (i.ev ρ).toNat + 1) := by
    have hlt' : o' + (i.ev ρ).toNat < arr.toList.length := by rw [Array.length_toList]; exact hlt
    rw [List.drop_eq_getElem_cons hlt']
    congr 1
    rw [List.getElem?_eq_getElem hlt'] at q3'
    exact Option.some.inj q3'
   rw [hd]; rfl
  rw [hpk] at hrun
  refine fin_pure h hU hd (v := .int .u8 (s.ev ρ)) ?_ (den_int' (x := s) (inKind_iff.2 ⟨q4, q5⟩)) hr
  simp only [execOp, ho]
  rw [← he, Sem.run_bind, hrun]
  rfl
 rename_i hne
 clear hne
 unfold evLoad at hr
 split at hr
 ·rename_i id off
  replace hr := run_obj hr
  obtain ⟨ob, hob, hr⟩ := hr
  unfold evLoadO at hr
  replace hr := run_optR hr
  obtain ⟨cs, hcs, hr⟩ := hr
  replace hr := run_bif hr
  obtain ⟨hb, hr⟩ := hr
  replace hr := run_optR hr
  obtain ⟨z, h3, hr⟩ := hr
  obtain ⟨b, s, vs, post, el, fr, q1, q2, q3, q4⟩ := (h.heap.objs id _ hob).rd hcs
  obtain ⟨q, e1, e2⟩ := den_p h1
  rw [q1] at e1; cases e1
  have hle := inside_le hb
  have hvl := denL_length q2
  have hrun := run_loadAt (off := off) hti.eok q4 (by rw [List.length_append]; omega)
  rw [List.drop_append_of_le_length (by omega), List.take_append_of_le_length (by rw [List.length_drop]; omega)] at hrun
  refine fin_pure h hU hd ?_ (den_valOf h3 (denL_cut _ _ q2) (all_cut _ _ q3)) hr
  simp only [execOp, ho]
  rw [e2, Sem.run_bind, hrun]
  rfl
 ·exact run_fail hr
theorem op_store (hT : TysOk P Γ.tys) (h : Rep P ρ N S H m a w) (hU : ∀ id, m id ≠ none → U id) {t : TypeId} {x y : Operand} (ho : o.op = .store t x y)
  (hr : (tyR Γ t fun ti => opdR x fun v => opdR y fun u => evStore fresh o ti.ty.size u.cells v).run S H = some r) : o.wp P a w (After P ρ N U fresh S H m r) Q := by
 replace hr := tyR_ok hT hr
 obtain ⟨ti, hti, hr⟩ := hr
 replace hr := opdR_ok h hr
 obtain ⟨v, h1, hr⟩ := hr
 replace hr := opdR_ok h hr
 obtain ⟨u, h2, hr⟩ := hr
 unfold evStore at hr
 split at hr
 ·rename_i id off
  replace hr := run_obj hr
  obtain ⟨ob, hob, hr⟩ := hr
  unfold evStoreO at hr
  split at hr
  ·rename_i el cs opn
   replace hr := run_bif hr
   obtain ⟨hb, hr⟩ := hr
   simp only [Bool.and_eq_true] at hb
   have hle := inside_le hb.1
   have hul := Nat.eq_of_beq_eq_true hb.2
   have hpos := hti.pos
   obtain ⟨c1, c2⟩ := den_cells h2 (by omega)
   obtain ⟨b, s, vs, post, q1, q2, q4, q5⟩ := h.heap.put hob c1 c2 (k := off) (by omega)
   obtain ⟨q, e1, e2⟩ := den_p h1
   rw [q1] at e1; cases e1
   have hvl := denL_length q2
   have hcl := denL_length c1
   have hrun := run_storeAt (off := off) hti.eok q4 (x := a.eval y) rfl (by rw [hcl, hul]) (one_cells c1 c2) (by rw [List.length_append, hcl]; omega)
   refine fin_skip h hU (ws0 := [.obj id (some (.cells el (putAt cs off u.cells) opn))]) ?_ q5 (fun z hz => by simp at hz; exact ⟨_, _, hz⟩) hr
   simp only [execOp, ho]
   rw [e2, Sem.run_bind, hrun]
   rfl
  ·exact run_fail hr
 ·exact run_fail hr
theorem zero_cells {i : TypeId} {ti : TI} (h : TOk P i ti) : ∃ z, (zeroValue i).run P w = .ok z w ∧ z.cells.toList = zc ti.ty := by
 obtain ⟨x, h1, h2, h3, h4⟩ := h.parts
 refine ⟨pk ti.ty (zc ti.ty), by simp [zeroValue, typeInfo, h1, h2], ?_⟩
 have hl : (zc ti.ty).length = ti.ty.size := by rw [denL_length (den_zero (ρ := En.any) (m := fun _ => none) ti.ty), zero_length]
 unfold pk
 cases ha : ti.ty.isAgg with
 | true => simp [Value.cells]
 | false =>
  simp only [Bool.false_eq_true, if_false]
  cases ht : ti.ty <;> rw [ht] at ha <;> first | rfl | cases ha
theorem op_alloc (hT : TysOk P Γ.tys) (h : Rep P ρ N S H m a w) (hU : ∀ id, m id ≠ none → U id) (hd : ∀ d, o.dst = some d → d < N) (hf : ∀ j, fresh ≤ j → j < r.2 → ¬ U j) {e : TypeId} (ho : o.op = .alloc e)
  (hr : (tyR Γ e fun ti => dstR o (.p fresh 0) [.obj fresh (some (.cells e ti.ty.zero false))] (fresh + 1)).run S H = some r) : o.wp P a w (After P ρ N U fresh S H m r) Q := by
 replace hr := tyR_ok hT hr
 obtain ⟨ti, hti, hr⟩ := hr
 have hnx := dst_nx hr
 have hn := fresh_none hU (hf fresh (Nat.le_refl _) (by omega))
 obtain ⟨z, hz, hzc⟩ := zero_cells (w := w) hti
 have hrep := h.heap.newCells (el := e) hn (den_zero ti.ty) (zero_one ti.ty)
 have hzc' : (zc ti.ty).toArray = z.cells := by rw [← hzc]
 rw [hzc'] at hrep
 refine fin_val h hd (v := .pointer (some ⟨w.heap.size, 0, none⟩)) ?_ (Mp.le_set hn) (ws0 := [.obj fresh (some (.cells e ti.ty.zero false))]) hrep (fun z hz => by simp at hz; exact ⟨_, _, hz⟩) (by simp only [den, Mp.set_same]) (dom_set hU (Nat.le_refl _) (Nat.lt_succ_self _)) hr
 simp only [execOp, ho, Instr.alloc, Sem.run_bind, hz, Result.andThen_ok, newVar, newRow, run_newObj, Sem.run_pure]
 rfl
theorem op_box (hT : TysOk P Γ.tys) (h : Rep P ρ N S H m a w) (hU : ∀ id, m id ≠ none → U id) (hd : ∀ d, o.dst = some d → d < N) (hf : ∀ j, fresh ≤ j → j < r.2 → ¬ U j) {e : TypeId} {x : Operand} (ho : o.op = .box e x)
  (hr : (tyR Γ e fun ti => opdR x (evBox fresh o e ti)).run S H = some r) : o.wp P a w (After P ρ N U fresh S H m r) Q := by
 replace hr := tyR_ok hT hr
 obtain ⟨ti, hti, hr⟩ := hr
 replace hr := opdR_ok h hr
 obtain ⟨v, h1, hr⟩ := hr
 unfold evBox at hr
 replace hr := run_bif hr
 obtain ⟨hb, hr⟩ := hr
 have hb := Nat.eq_of_beq_eq_true hb
 have hpos := hti.pos
 obtain ⟨c1, c2⟩ := den_cells h1 (by omega)
 have hnx := dst_nx hr
 have hn := fresh_none hU (hf fresh (Nat.le_refl _) (by omega))
 have hrep := h.heap.newCells (el := e) hn c1 c2
 have hzc' : (a.eval x).cells.toList.toArray = (a.eval x).cells := rfl
 rw [hzc'] at hrep
 refine fin_val h hd (v := .pointer (some ⟨w.heap.size, 0, none⟩)) ?_ (Mp.le_set hn) (ws0 := [.obj fresh (some (.cells e v.cells false))]) hrep (fun z hz => by simp at hz; exact ⟨_, _, hz⟩) (by simp only [den, Mp.set_same]) (dom_set hU (Nat.le_refl _) (Nat.lt_succ_self _)) hr
 simp only [execOp, ho, Instr.box, Sem.run_bind, Result.andThen_ok, newVar, newRow, run_newObj, Sem.run_pure]
 rfl
theorem run_fieldAt {t : TypeId} {fs : Array Field} {k : Nat} {fl : Field} {u : Ty} {b off : Nat} (hu : P.underlying t = some (.struct fs)) (hf : fs.toList[k]? = some fl) (he : EOk P fl.type u) :
  (Instr.fieldAt t (.pointer (some ⟨b, off, none⟩)) k).run P w = .ok (.pointer (some ⟨b, off + fl.offset, none⟩)) w := by
 have hne : ¬ u.size = 0 := by have := he.2.1; omega
 simp only [Instr.fieldAt, Sem.run_bind, run_underlying hu, Result.andThen_ok]
 rw [show fs[k]? = some fl by rw [← Array.getElem?_toList]; exact hf]
 simp only [Instr.sureAddr, fieldPlace, Sem.run_bind, Sem.run_pure, Result.andThen_ok, run_sizeOf he, if_neg hne, Addr.add_mid]
theorem op_fieldAddr (hT : TysOk P Γ.tys) (h : Rep P ρ N S H m a w) (hU : ∀ id, m id ≠ none → U id) (hd : ∀ d, o.dst = some d → d < N) {t : TypeId} {x : Operand} {f : Nat} (ho : o.op = .fieldAddr t x f)
  (hr : (tyR Γ t fun ti => opdR x (evFieldAddr fresh o ti f)).run S H = some r) : o.wp P a w (After P ρ N U fresh S H m r) Q := by
 replace hr := tyR_ok hT hr
 obtain ⟨ti, hti, hr⟩ := hr
 replace hr := opdR_ok h hr
 obtain ⟨v, h1, hr⟩ := hr
 unfold evFieldAddr at hr
 split at hr
 ·rename_i id off
  split at hr
  ·rename_i u hu
   obtain ⟨A, B, hty⟩ := fldTy_pair hu
   have hs := hti.shape
   rw [hty] at hs
   obtain ⟨fs, hfu, hfs⟩ := hs
   rw [← hty] at hfs
   obtain ⟨fl, h4, h5, h6⟩ := hfs.at_ hu
   obtain ⟨q, e1, e2⟩ := den_p h1
   refine fin_pure h hU hd (v := .pointer (some ⟨q.1, off + fldOff ti.ty f, none⟩)) ?_ (by simp only [den, e1]) hr
   simp only [execOp, ho]
   rw [e2, Sem.run_bind, run_fieldAt hfu h4 h6, h5, Nat.zero_add]
   rfl
  ·exact run_fail hr
 ·exact run_fail hr
theorem run_indexAt_sl {t e : TypeId} {u : Ty} {b off n c : Nat} {kd : IntKind} {i : Nat} (hu : P.underlying t = some (.slice e)) (he : EOk P e u) (hi : i < n) :
  (Instr.indexAt t (.slice (some ⟨b, off, none⟩) n c) (.int kd (i : Int))).run P w = .ok (.pointer (some ⟨b, off + i * u.size, none⟩)) w := by
 have c1 : (0 : Int) ≤ (i : Int) ∧ (i : Int) < (n : Int) := ⟨by omega, by omega⟩
 simp only [Instr.indexAt, asIntOf, Sem.run_bind, Sem.run_pure, Result.andThen_ok, run_underlying hu, if_pos c1, run_sizeOf he, Int.toNat_natCast, Addr.add_mid]
theorem run_indexAt_arr {t e : TypeId} {u : Ty} {b off n : Nat} {kd : IntKind} {i : Nat} (hu : P.underlying t = some (.array n e)) (he : EOk P e u) (hi : i < n) :
  (Instr.indexAt t (.pointer (some ⟨b, off, none⟩)) (.int kd (i : Int))).run P w = .ok (.pointer (some ⟨b, off + i * u.size, none⟩)) w := by
 have c1 : (0 : Int) ≤ (i : Int) ∧ (i : Int) < (n : Int) := ⟨by omega, by omega⟩
 simp only [Instr.indexAt, asIntOf, Instr.sureAddr, Sem.run_bind, Sem.run_pure, Result.andThen_ok, run_underlying hu, if_pos c1, run_sizeOf he, Int.toNat_natCast, Addr.add_mid]
theorem den_sl {id off n c : Nat} {op : Bool} {x : Value} (h : den ρ m (.sl id off n c op) = some x) : ∃ q, m id = some q ∧ x = .slice (some ⟨q.1, off, none⟩) n (c + bif op then q.2 else 0) := by
 simp only [den] at h
 split at h
 ·rename_i q hq; cases h; exact ⟨q, hq, rfl⟩
 ·cases h
theorem op_indexAddr (hT : TysOk P Γ.tys) (hR : RngOk ρ Γ.R) (h : Rep P ρ N S H m a w) (hU : ∀ id, m id ≠ none → U id) (hd : ∀ d, o.dst = some d → d < N) {t : TypeId} {x i : Operand} (ho : o.op = .indexAddr t x i)
  (hr : (tyR Γ t fun ti => opdR x fun v => opdR i fun u => evIdxA Γ fresh o ti u v).run S H = some r) : o.wp P a w (After P ρ N U fresh S H m r) Q := by
 replace hr := tyR_ok hT hr
 obtain ⟨ti, hti, hr⟩ := hr
 replace hr := opdR_ok h hr
 obtain ⟨v, h1, hr⟩ := hr
 replace hr := opdR_ok h hr
 obtain ⟨u, h2, hr⟩ := hr
 have hs := hti.shape
 unfold evIdxA at hr
 split at hr
 ·rename_i j
  unfold evKv at hr
  split at hr
  ·rename_i κ iv
   replace hr := tyR_ok hT hr
   obtain ⟨te, hte, hr⟩ := hr
   replace hr := run_optR hr
   obtain ⟨nn, hn, hr⟩ := hr
   replace hr := run_bif hr
   obtain ⟨hb, hr⟩ := hr
   simp only [Bool.and_eq_true] at hb
   obtain ⟨⟨⟨b1, b2⟩, b3⟩, b4⟩ := hb
   have hty : ti.ty = .sl := by cases hq : ti.ty <;> rw [hq] at b1 <;> first | rfl | cases b1
   rw [hty] at hs
   simp only [TSh] at hs
   obtain ⟨A, n, c, w1, w2, w3, w4⟩ := hR.kl j nn hn
   have i0 : 0 ≤ iv.ev ρ := by
    unfold isF at b3
    split at b3
    ·rename_i hq
     have := of_decide_eq_false (ivLt_ok hR hq).symm
     have this : ¬ iv.ev ρ < 0 := this
     omega
    ·cases b3
   have i1 : iv.ev ρ < n := by
    unfold isTr at b4
    split at b4
    ·rename_i hq
     have := of_decide_eq_true (ivLt_ok hR hq).symm
     omega
    ·cases b4
   obtain ⟨hi, _⟩ := den_int h2
   simp only [den, w1] at h1
   have hA : (Value.slice A n c) = a.eval x := Option.some.inj h1
   obtain ⟨b, o', rfl⟩ := w4 (by omega)
   have hlt : (iv.ev ρ).toNat < n := by omega
   have hrun := run_indexAt_sl (P := P) (w := w) (b := b) (off := o') (n := n) (c := c) (kd := κ) (i := (iv.ev ρ).toNat) hs hte.eok hlt
   rw [Nat.eq_of_beq_eq_true b2, Nat.mul_one, Int.toNat_of_nonneg i0] at hrun
   have hden : den ρ m (.kp j iv) = some (.pointer (some ⟨b, o' + (iv.ev ρ).toNat, none⟩)) := by
    simp only [den, w1]
    rw [decide_eq_true i0, decide_eq_true i1]; rfl
   refine fin_pure h hU hd ?_ hden hr
   simp only [execOp, ho]
   rw [← hA, hi, Sem.run_bind, hrun]
   rfl
  ·exact run_fail hr
 rename_i hne
 clear hne
 replace hr := run_optR hr
 obtain ⟨n, h3, hr⟩ := hr
 obtain ⟨kd, hi⟩ := litR_ok hR h3 h2
 unfold evIndexAddr at hr
 split at hr
 ·rename_i id off len c op
  replace hr := run_bif hr
  obtain ⟨hsl, hr⟩ := hr
  replace hr := tyR_ok hT hr
  obtain ⟨te, hte, hr⟩ := hr
  replace hr := run_bif hr
  obtain ⟨hb, hr⟩ := hr
  have hn : n < len := Nat.le_of_ble_eq_true hb
  have hty : ti.ty = .sl := by cases hq : ti.ty <;> rw [hq] at hsl <;> first | rfl | cases hsl
  rw [hty] at hs
  simp only [TSh] at hs
  obtain ⟨q, e1, e2⟩ := den_sl h1
  refine fin_pure h hU hd (v := .pointer (some ⟨q.1, off + n * te.ty.size, none⟩)) ?_ (by simp only [den, e1]) hr
  simp only [execOp, ho]
  rw [e2, hi, Sem.run_bind, run_indexAt_sl hs hte.eok hn]
  rfl
 ·rename_i id off
  split at hr
  ·rename_i len u hty
   replace hr := run_bif hr
   obtain ⟨hb, hr⟩ := hr
   have hn : n < len := Nat.le_of_ble_eq_true hb
   rw [hty] at hs
   obtain ⟨hu, he⟩ := hs
   obtain ⟨q, e1, e2⟩ := den_p h1
   refine fin_pure h hU hd (v := .pointer (some ⟨q.1, off + n * u.size, none⟩)) ?_ (by simp only [den, e1]) hr
   simp only [execOp, ho]
   rw [e2, hi, Sem.run_bind, run_indexAt_arr hu he hn]
   rfl
  ·exact run_fail hr
 ·exact run_fail hr
end
end Go.Proofs.YtehbbcdhahnkgaaGreat.Hm

namespace Go.Proofs.YtehbbcdhahnkgaaGreat.Hm
open Go
section
variable {P : Program} {Γ : Ctx} {ρ : En} {N : Nat} {S : Sl} {H : Hp} {m : Mp} {a : Act} {w : World} {o : Oper} {U : Nat → Prop} {fresh : Nat} {r : List Wr × Nat} {Q : Exit → Act → World → Prop}

theorem putV_get {vs us : List Value} {o : Nat} (h : o + us.length ≤ vs.length) (j : Nat) : (putV vs o us)[j]? = if j < o then vs[j]? else if j < o + us.length then us[j - o]? else vs[j]? := by
 unfold putV
 simp only [List.getElem?_append, List.length_append, List.length_take, List.getElem?_take, List.getElem?_drop]
 have hm : min o vs.length = o := by omega
 simp only [hm]
 by_cases c1 : j < o
 ·simp [c1, show j < o + us.length by omega]
 ·by_cases c2 : j < o + us.length
  ·simp [c1, c2]
  ·simp [c1, c2, show o + us.length + (j - (o + us.length)) = j by omega]
theorem fill_step {place : Nat → Option (Nat × Nat)} {xs : List Value} {i off : Nat} {v : Value} {rest : List (Nat × Value)} (hp : place i = some (off, v.cells.size)) (hl : off + v.cells.size ≤ xs.length) :
  Instr.fill place xs.toArray ((i, v) :: rest) = Instr.fill place (putV xs off v.cells.toList).toArray rest := by
 obtain ⟨g1, g2⟩ := Great.foldl_set off v.cells.toList 0 xs.toArray
 have e : (v.cells.toList.zipIdx 0).foldl (fun cs (x : Value × Nat) => cs.setIfInBounds (off + x.2) x.1) xs.toArray = (putV xs off v.cells.toList).toArray := by
  apply Array.toList_inj.1
  apply List.ext_getElem?
  intro k
  rw [Array.getElem?_toList, g2 k]
  rw [putV_get (by rw [Array.length_toList]; exact hl)]
  simp only [Nat.add_zero, Array.length_toList, List.size_toArray]
  by_cases c1 : k < off
  ·rw [if_neg (by omega), if_pos c1]; simp
  ·by_cases c2 : k < off + v.cells.size
   ·rw [if_pos (by omega), if_neg c1, if_pos c2]
   ·rw [if_neg (by omega), if_neg c1, if_neg c2]; simp
 conv => lhs; unfold Instr.fill
 simp only [hp]
 rw [if_neg (by simp; omega)]
 congr 1
 rw [← e, ← Array.foldl_toList, Array.toList_zipIdx]
theorem partsR_ok (h : Rep P ρ N S H m a w) : ∀ {ps : List (Nat × Operand)} {k : List (Nat × HV) → RT}, (partsR ps k).run S H = some r →
  ∃ vs, All2 (fun (p : Nat × Operand) (q : Nat × HV) => q.1 = p.1 ∧ den ρ m q.2 = some (a.eval p.2)) ps vs ∧ (k vs).run S H = some r
 | [], k, hr => ⟨[], .nil, hr⟩
 | p :: l, k, hr => by
  simp only [partsR] at hr
  replace hr := opdR_ok h hr
  obtain ⟨v, h1, hr⟩ := hr
  obtain ⟨vs, h3, hr⟩ := partsR_ok h hr
  exact ⟨(p.1, v) :: vs, .cons ⟨rfl, h1⟩ h3, hr⟩
theorem fldTy_off : ∀ {t : Ty} {k : Nat} {u : Ty}, fldTy t k = some u → fldOff t k + u.size ≤ t.size
 | .pair a b, 0, u, h => by simp only [fldTy] at h; cases h; simp only [fldOff, Ty.size]; omega
 | .pair a b, k + 1, u, h => by
  simp only [fldTy] at h
  have := fldTy_off h
  simp only [fldOff, Ty.size]; omega
 | .bool, _, _, h | .int _, _, _, h | .str, _, _, h | .sl, _, _, h | .ptr, _, _, h | .fn, _, _, h | .mp, _, _, h | .unit, _, _, h | .arr _ _, _, _, h => by simp [fldTy] at h
theorem fill_struct {t : Ty} {place : Nat → Option (Nat × Nat)} (hp : ∀ k u, fldTy t k = some u → place k = some (fldOff t k, u.size)) : ∀ {ps : List (Nat × Operand)} {vs : List (Nat × HV)} {cs cs' : List HV} {xs : List Value},
  All2 (fun (p : Nat × Operand) (q : Nat × HV) => q.1 = p.1 ∧ den ρ m q.2 = some (a.eval p.2)) ps vs → fillStruct t vs cs = some cs' → denL ρ m cs = some xs → cs.all HV.one = true → cs.length = t.size → (∀ k u, fldTy t k = some u → 0 < u.size) →
  ∃ xs', Instr.fill place xs.toArray (ps.map fun p => (p.1, a.eval p.2)) = some xs'.toArray ∧ denL ρ m cs' = some xs' ∧ cs'.all HV.one = true ∧ cs'.length = t.size := by
 intro ps
 induction ps with
 | nil => intro vs cs cs' xs h hf hd h1 hl _; cases h; simp only [fillStruct] at hf; cases hf; exact ⟨xs, rfl, hd, h1, hl⟩
 | cons p ps ih =>
  intro vs cs cs' xs h hf hd h1 hl hpos
  cases h with
  | @cons _ q _ vs' hq hrest =>
   obtain ⟨i, v⟩ := q
   obtain ⟨hi, hv⟩ := hq
   simp only at hi hv
   simp only [fillStruct] at hf
   split at hf
   ·rename_i u hu
    cases hb : Nat.beq v.cells.length u.size <;> rw [hb] at hf <;> (try cases hf)
    have hb := Nat.eq_of_beq_eq_true hb
    have hup := hpos _ _ hu
    obtain ⟨c1, c2⟩ := den_cells hv (by omega)
    have hoff := fldTy_off hu
    have hvl := denL_length c1
    have hxl := denL_length hd
    obtain ⟨xs', r1, r2, r3, r4⟩ := ih hrest hf (denL_put hd c1 (by omega)) (all_putAt h1 c2 (by omega)) (by rw [put_length (by omega), hl]) hpos
    refine ⟨xs', ?_, r2, r3, r4⟩
    rw [Array.length_toList] at hvl
    rw [List.map_cons, fill_step (off := fldOff t i) (by rw [hvl, hb, ← hi]; exact hp i u hu) (by rw [hvl]; omega)]
    exact r1
   ·cases hf
theorem fill_arr {n sz : Nat} (hsz : 0 < sz) : ∀ {ps : List (Nat × Operand)} {vs : List (Nat × HV)} {cs cs' : List HV} {xs : List Value},
  All2 (fun (p : Nat × Operand) (q : Nat × HV) => q.1 = p.1 ∧ den ρ m q.2 = some (a.eval p.2)) ps vs → fillArr n sz vs cs = some cs' → denL ρ m cs = some xs → cs.all HV.one = true → cs.length = n * sz →
  ∃ xs', Instr.fill (fun i => some (i * sz, sz)) xs.toArray (ps.map fun p => (p.1, a.eval p.2)) = some xs'.toArray ∧ denL ρ m cs' = some xs' ∧ cs'.all HV.one = true ∧ cs'.length = n * sz := by
 intro ps
 induction ps with
 | nil => intro vs cs cs' xs h hf hd h1 hl; cases h; simp only [fillArr] at hf; cases hf; exact ⟨xs, rfl, hd, h1, hl⟩
 | cons p ps ih =>
  intro vs cs cs' xs h hf hd h1 hl
  cases h with
  | @cons _ q _ vs' hq hrest =>
   obtain ⟨i, v⟩ := q
   obtain ⟨hi, hv⟩ := hq
   simp only at hi hv
   simp only [fillArr] at hf
   cases hb : (Nat.blt i n && Nat.beq v.cells.length sz) <;> rw [hb] at hf <;> (try cases hf)
   simp only [Bool.and_eq_true] at hb
   have hin : i < n := Nat.le_of_ble_eq_true hb.1
   have hb := Nat.eq_of_beq_eq_true hb.2
   obtain ⟨c1, c2⟩ := den_cells hv (by omega)
   have hoff : i * sz + sz ≤ n * sz := by
    calc i * sz + sz = (i + 1) * sz := by rw [Nat.add_mul, Nat.one_mul]
     _ ≤ n * sz := Nat.mul_le_mul_right _ hin
   have hvl := denL_length c1
   have hxl := denL_length hd
   obtain ⟨xs', r1, r2, r3, r4⟩ := ih hrest hf (denL_put hd c1 (by omega)) (all_putAt h1 c2 (by omega)) (by rw [put_length (by omega), hl])
   refine ⟨xs', ?_, r2, r3, r4⟩
   rw [Array.length_toList] at hvl
   rw [List.map_cons, fill_step (off := i * sz) (by rw [hvl, hb, ← hi]) (by rw [hvl]; omega)]
   exact r1
theorem FsOk.places : ∀ {fs : List Field} {off : Nat} {t : Ty}, FsOk P fs off t → ∃ places, fs.mapM (fun f => (P.info? f.type).map fun i => (f.offset, i.size)) = some places ∧ (∀ k u, fldTy t k = some u → places[k]? = some (off + fldOff t k, u.size)) ∧ ∀ k u, fldTy t k = some u → 0 < u.size := by
 intro fs off t h
 induction h with
 | nil => exact ⟨[], rfl, fun k u hu => by simp [fldTy] at hu, fun k u hu => by simp [fldTy] at hu⟩
 | @cons f fs off a b h1 h2 h3 ih =>
  obtain ⟨places, q1, q2, q3⟩ := ih
  have hs : (P.info? f.type).map (fun i => (f.offset, i.size)) = some (f.offset, a.size) := by
   have := h2.1
   cases hq : P.info? f.type with
   | none => simp [hq] at this
   | some i => simp [hq] at this; simp [this]
  refine ⟨(f.offset, a.size) :: places, by rw [List.mapM_cons, hs, q1]; rfl, fun k u hu => ?_, fun k u hu => ?_⟩
  ·cases k with
   | zero => simp only [fldTy] at hu; cases hu; simp [fldOff, h1]
   | succ k => simp only [fldTy] at hu; simp only [List.getElem?_cons_succ, q2 k u hu, fldOff]; congr 2; omega
  ·cases k with
   | zero => simp only [fldTy] at hu; cases hu; exact h2.2.1
   | succ k => exact q3 k u hu
theorem zc_cells (t : Ty) (ha : t.isAgg = true) : (pk t (zc t)).cells = (zc t).toArray := by unfold pk; rw [if_pos ha]; rfl
theorem op_build (hT : TysOk P Γ.tys) (h : Rep P ρ N S H m a w) (hU : ∀ id, m id ≠ none → U id) (hd : ∀ d, o.dst = some d → d < N) {t : TypeId} {ps : Array (Nat × Operand)} (ho : o.op = .build t ps)
  (hr : (tyR Γ t fun ti => partsR ps.toList fun vs => evBuild fresh o vs ti.ty).run S H = some r) : o.wp P a w (After P ρ N U fresh S H m r) Q := by
 replace hr := tyR_ok hT hr
 obtain ⟨ti, hti, hr⟩ := hr
 have hsh := hti.shape
 replace hr := partsR_ok h hr
 obtain ⟨vs, hall, hr⟩ := hr
 obtain ⟨it, hi, hz, _, _⟩ := hti.parts
 have hps : (ps.map fun (i, x) => (i, a.eval x)).toList = ps.toList.map fun p => (p.1, a.eval p.2) := by rw [Array.toList_map]
 unfold evBuild at hr
 split at hr
 ·rename_i n u hty
  replace hr := run_optR hr
  obtain ⟨cs, hcs, hr⟩ := hr
  rw [hty] at hsh
  obtain ⟨hu, he⟩ := hsh
  obtain ⟨xs', r1, r2, r3, r4⟩ := fill_arr (ρ := ρ) (m := m) (a := a) he.2.1 hall hcs (den_zero (.arr n u)) (zero_one (.arr n u)) (zero_length (.arr n u))
  have hsz := he.1
  cases hq : P.info? ti.el with
  | none => rw [hq] at hsz; simp at hsz
  | some ie =>
   rw [hq] at hsz; simp at hsz
   have hb : P.built t (ps.map fun (i, x) => (i, a.eval x)).toList = some xs'.toArray := by
    rw [hps]
    rw [hty] at hz
    simp only [Program.built, hi, hu, hz, hq, hsz, zc_cells (.arr n u) rfl]
    exact r1
   have hrun := run_build (P := P) w t (ps.map fun (i, x) => (i, a.eval x)) xs'.toArray hb
   refine fin_pure h hU hd (v := .agg xs'.toArray) ?_ (by simp only [den, r3, r2]) hr
   simp only [execOp, ho, Sem.run_bind, hrun, Result.andThen_ok, Sem.run_pure]
 ·rename_i A B hty
  replace hr := run_optR hr
  obtain ⟨cs, hcs, hr⟩ := hr
  rw [hty] at hsh
  obtain ⟨fs, hu, hfs⟩ := hsh
  obtain ⟨places, q1, q2, q3⟩ := hfs.places
  obtain ⟨xs', r1, r2, r3, r4⟩ := fill_struct (ρ := ρ) (m := m) (a := a) (place := (places.toArray[·]?)) (fun k u hk => by simpa using q2 k u hk) hall hcs (den_zero (.pair A B)) (zero_one (.pair A B)) (zero_length (.pair A B)) q3
  have hb : P.built t (ps.map fun (i, x) => (i, a.eval x)).toList = some xs'.toArray := by
   rw [hps]
   rw [hty] at hz
   simp only [Program.built, hi, hu, hz, q1, zc_cells (.pair A B) rfl]
   exact r1
  have hrun := run_build (P := P) w t (ps.map fun (i, x) => (i, a.eval x)) xs'.toArray hb
  refine fin_pure h hU hd (v := .agg xs'.toArray) ?_ (by simp only [den, r3, r2]) hr
  simp only [execOp, ho, Sem.run_bind, hrun, Result.andThen_ok, Sem.run_pure]
 ·exact run_fail hr
theorem is_sl {t : Ty} (h : isSl t = true) : t = .sl := by cases t <;> first | rfl | cases h
theorem is_str {t : Ty} (h : isStrT t = true) : t = .str := by cases t <;> first | rfl | cases h
theorem range_flat (zs : List Value) (k : Nat) (f : Nat → Value) (hf : ∀ i, i < zs.length → f i = zs.getD i undef) (hm : ∀ i, f i = f (i % zs.length)) : (List.range (k * zs.length)).map f = (List.replicate k zs).flatten := by
 induction k with
 | zero => simp
 | succ k ih =>
  rw [Nat.add_mul, Nat.one_mul, List.range_add, List.map_append, ih, List.replicate_succ', List.flatten_append]
  congr 1
  apply List.ext_getElem?
  intro j
  simp only [List.map_map, List.getElem?_map, List.getElem?_range', List.flatten_cons, List.flatten_nil, List.append_nil]
  by_cases hj : j < zs.length
  ·rw [List.getElem?_range hj]
   simp only [Option.map_some, Function.comp]
   rw [hm, Nat.add_comm, Nat.add_mul_mod_self_right, Nat.mod_eq_of_lt hj, hf j hj]
   simp [List.getD, List.getElem?_eq_getElem hj]
  ·rw [List.getElem?_eq_none (by simpa using hj), List.getElem?_eq_none (by simpa using hj)]; rfl
theorem modCells (z : Array Value) (k : Nat) : ((Array.range (k * z.size)).map (fun i => z[i % z.size]!)).toList = (List.replicate k z.toList).flatten := by
 rw [Array.toList_map, Array.toList_range]
 have := range_flat z.toList k (fun i => z[i % z.size]!) (fun i hi => by
  rw [Array.length_toList] at hi
  rw [Nat.mod_eq_of_lt hi]
  simp [List.getD, hi]) (fun i => by simp)
 simpa using this
theorem pk_zero_cells (t : Ty) : (pk t (zc t)).cells.toList = zc t := by
 have hl : (zc t).length = t.size := by rw [denL_length (den_zero (ρ := En.any) (m := fun _ => none) t), zero_length]
 unfold pk
 cases ha : t.isAgg with
 | true => simp [Value.cells]
 | false =>
  simp only [Bool.false_eq_true, if_false]
  cases ht : t <;> rw [ht] at ha <;> first | rfl | cases ha
theorem pk_zero_size (t : Ty) : (pk t (zc t)).cells.size = t.size := by
 rw [← Array.length_toList, pk_zero_cells, denL_length (den_zero (ρ := En.any) (m := fun _ => none) t), zero_length]
theorem op_buildSlice (hT : TysOk P Γ.tys) (h : Rep P ρ N S H m a w) (hU : ∀ id, m id ≠ none → U id) (hd : ∀ d, o.dst = some d → d < N) (hf : ∀ j, fresh ≤ j → j < r.2 → ¬ U j) {t : TypeId} {n : Nat} {ps : Array (Nat × Operand)} (ho : o.op = .buildSlice t n ps)
  (hr : (tyR Γ t fun ti => tyR Γ ti.el fun te => partsR ps.toList fun vs => bif isSl ti.ty && Nat.ble (n * te.ty.size) 16777216 then optR 5 (fillArr n te.ty.size vs (rep n te.ty.zero)) fun cs => dstR o (.sl fresh 0 n n false) [.obj fresh (some (.cells ti.el cs false))] (fresh + 1) else .fail 248).run S H = some r) :
  o.wp P a w (After P ρ N U fresh S H m r) Q := by
 replace hr := tyR_ok hT hr
 obtain ⟨ti, hti, hr⟩ := hr
 have hsh := hti.shape
 replace hr := tyR_ok hT hr
 obtain ⟨te, hte, hr⟩ := hr
 replace hr := partsR_ok h hr
 obtain ⟨vs, hall, hr⟩ := hr
 replace hr := run_bif hr
 obtain ⟨hb, hr⟩ := hr
 simp only [Bool.and_eq_true] at hb
 rw [is_sl hb.1] at hsh
 simp only [TSh] at hsh
 have h24 := Nat.le_of_ble_eq_true hb.2
 replace hr := run_optR hr
 obtain ⟨cs, hcs, hr⟩ := hr
 obtain ⟨ie, hi, hz, hs, _⟩ := hte.parts
 have hz0 : denL ρ m (rep n te.ty.zero) = some (List.replicate n (zc te.ty)).flatten := denL_rep (den_zero te.ty) n
 obtain ⟨xs', r1, r2, r3, r4⟩ := fill_arr (ρ := ρ) (m := m) (a := a) hte.pos hall hcs hz0 (zero_one (.arr n te.ty)) (zero_length (.arr n te.ty))
 have hnx := dst_nx hr
 have hn := fresh_none hU (hf fresh (Nat.le_refl _) (by omega))
 have hrep := h.heap.newCells (el := ti.el) hn r2 r3
 have hps : (ps.map fun (i, x) => (i, a.eval x)).toList = ps.toList.map fun p => (p.1, a.eval p.2) := by rw [Array.toList_map]
 have hcells : (Array.range (n * ie.size)).map ((pk te.ty (zc te.ty)).cells[· % (pk te.ty (zc te.ty)).cells.size]!) = (List.replicate n (zc te.ty)).flatten.toArray := by
  apply Array.toList_inj.1
  rw [hs, ← pk_zero_size te.ty, modCells, pk_zero_cells]
 refine fin_val h hd (v := .slice (some ⟨w.heap.size, 0, none⟩) n n) ?_ (Mp.le_set hn) (ws0 := [.obj fresh (some (.cells ti.el cs false))]) hrep (fun z hz => by simp at hz; exact ⟨_, _, hz⟩) (by simp [den, Mp.set_same]) (dom_set hU (Nat.le_refl _) (Nat.lt_succ_self _)) hr
 have hxl : xs'.length = n * te.ty.size := (denL_length r2).trans r4
 rcases Nat.eq_zero_or_pos n with h0 | h0
 ·subst h0
  have hx0 : xs' = [] := List.eq_nil_of_length_eq_zero (by omega)
  subst hx0
  have r5 : Instr.fill (fun i => some (i * te.ty.size, te.ty.size)) #[] (ps.toList.map fun p => (p.1, a.eval p.2)) = some #[] := r1
  have hpar : (ps.map fun (i, x) => (i, a.eval x)).toList = ps.toList.map fun p => (p.1, a.eval p.2) := hps
  simp only [execOp, ho, Instr.buildSlice, Sem.run_bind, run_underlying hsh, Result.andThen_ok, run_sizeOf hte.eok, Nat.zero_mul, if_true, Sem.run_pure, hpar]
  simp [r5, newRow, show (Array.range 0 : Array Nat) = #[] from rfl]
 ·have hsz : ¬ (n * ie.size > 2 ^ 24) := by rw [hs]; omega
  have hsz0 : ¬ (n * ie.size = 0) := by rw [hs]; exact Nat.mul_ne_zero (by omega) (by have := hte.pos; omega)
  have hrun := run_buildSlice (P := P) w t ti.el n (ps.map fun (i, x) => (i, a.eval x)) xs'.toArray ie _ hsh hi hz hsz hsz0 (by rw [hcells, hps, hs]; exact r1)
  simp only [execOp, ho, Sem.run_bind, hrun, Result.andThen_ok, Sem.run_pure]
theorem op_makeSlice (hT : TysOk P Γ.tys) (h : Rep P ρ N S H m a w) (hU : ∀ id, m id ≠ none → U id) (hd : ∀ d, o.dst = some d → d < N) (hf : ∀ j, fresh ≤ j → j < r.2 → ¬ U j) {t : TypeId} {x y : Operand} (ho : o.op = .makeSlice t x y)
  (hr : (tyR Γ t fun ti => tyR Γ ti.el fun te => opdR x fun v => opdR y fun u => evMakeSlice fresh o (isSl ti.ty) ti.el te (litN v) (litN u)).run S H = some r) :
  o.wp P a w (After P ρ N U fresh S H m r) Q := by
 replace hr := tyR_ok hT hr
 obtain ⟨ti, hti, hr⟩ := hr
 have hsh := hti.shape
 replace hr := tyR_ok hT hr
 obtain ⟨te, hte, hr⟩ := hr
 replace hr := opdR_ok h hr
 obtain ⟨v, h1, hr⟩ := hr
 replace hr := opdR_ok h hr
 obtain ⟨u, h2, hr⟩ := hr
 unfold evMakeSlice at hr
 split at hr
 ·rename_i n c hn hc
  replace hr := run_bif hr
  obtain ⟨hb, hr⟩ := hr
  simp only [Bool.and_eq_true, room, decide_eq_true_eq] at hb
  obtain ⟨⟨⟨b1, b2⟩, b3⟩, b4⟩ := hb
  rw [is_sl b1] at hsh
  simp only [TSh] at hsh
  have b2 := Nat.le_of_ble_eq_true b2
  have b4 := Nat.le_of_ble_eq_true b4
  obtain ⟨k1, e1⟩ := litN_ok hn h1
  obtain ⟨k2, e2⟩ := litN_ok hc h2
  obtain ⟨i, hi, hz, hs, hby⟩ := hte.parts
  have hc48 : (i.bytes : Int) * (c : Int) ≤ 281474976710656 := by
   rw [hby, ← Int.natCast_mul, Nat.mul_comm]; omega
  have hmk := run_make (P := P) w t ti.el i _ hsh hi hz k1 k2 (n : Int) (c : Int) (by omega) (by omega) hc48 (by omega)
  have hnx := dst_nx hr
  have hfn := fresh_none hU (hf fresh (Nat.le_refl _) (by omega))
  have hcells : (madeCells (pk te.ty (zc te.ty)).cells (c * i.size)).toList = (List.replicate c (zc te.ty)).flatten := by
   unfold madeCells; rw [hs, ← pk_zero_size te.ty, modCells, pk_zero_cells]
  have hrep := h.heap.newCells (el := ti.el) hfn (denL_rep (den_zero te.ty) c) (zero_one (.arr c te.ty))
  rw [← hcells] at hrep
  refine fin_val h hd (v := .slice (some ⟨w.heap.size, 0, none⟩) n c) ?_ (Mp.le_set hfn) (ws0 := [.obj fresh (some (.cells ti.el (rep c te.ty.zero) false))]) hrep (fun z hz => by simp at hz; exact ⟨_, _, hz⟩) (by simp [den, Mp.set_same]) (dom_set hU (Nat.le_refl _) (Nat.lt_succ_self _)) hr
  simp only [Int.toNat_natCast] at hmk
  simp only [execOp, ho, Sem.run_bind, e1, e2, hmk, Result.andThen_ok, Sem.run_pure]
 ·exact run_fail hr
end
end Go.Proofs.YtehbbcdhahnkgaaGreat.Hm

namespace Go.Proofs.YtehbbcdhahnkgaaGreat.Hm
open Go
section
variable {P : Program} {Γ : Ctx} {ρ : En} {N : Nat} {S : Sl} {H : Hp} {m : Mp} {a : Act} {w : World} {o : Oper} {U : Nat → Prop} {fresh : Nat} {r : List Wr × Nat} {Q : Exit → Act → World → Prop}

theorem nat_i64 {n : Nat} (h : n ≤ 9223372036854775807) : inKind .i64 (n : Int) = true := by
 rw [inKind_iff, show IntKind.i64.min = -9223372036854775808 from rfl, show IntKind.i64.max = 9223372036854775807 from rfl]; omega
theorem op_len (hT : TysOk P Γ.tys) (hR : RngOk ρ Γ.R) (h : Rep P ρ N S H m a w) (hU : ∀ id, m id ≠ none → U id) (hd : ∀ d, o.dst = some d → d < N) {c : Call} {x : Operand} (ho : o.op = .call c) (hc : c.callee = .builtin .len) (ha : c.args = #[x]) {t : TypeId} (hty : c.argTypes.toList = [t])
  (hr : (tyR Γ t fun ti => opdR x (evLenT Γ fresh o ti)).run S H = some r) : o.wp P a w (After P ρ N U fresh S H m r) Q := by
 replace hr := tyR_ok hT hr
 obtain ⟨ti, hti, hr⟩ := hr
 have hsh := hti.shape
 replace hr := opdR_ok h hr
 obtain ⟨v, h1, hr⟩ := hr
 have hat : c.argTypes = #[t] := by apply Array.toList_inj.1; rw [hty]
 have key : ∀ n : Nat, (Builtin.len_ #[t] o.type #[a.eval x]).run P w = .ok (goInt n) w → (execOp a.eval o).run P w = .ok (.value (goInt n)) w := by
  intro n hn
  simp only [execOp, ho, resolve, hc, ha, hat, Sem.run_bind, Sem.run_pure, Result.andThen_ok, invoke, builtin, List.map_toArray, List.map_cons, List.map_nil, hn]
 unfold evLenT at hr
 split at hr
 ·replace hr := run_bif hr
  obtain ⟨hb, hr⟩ := hr
  rw [is_sl hb] at hsh
  simp only [TSh] at hsh
  simp only [den, Option.some.injEq] at h1
  exact fin_pure h hU hd (key 0 (by rw [← h1]; simp [Builtin.len_, run_underlying hsh])) (den_int' (x := .lit 0) (nat_i64 (n := 0) (by omega))) hr
 ·replace hr := run_bif hr
  obtain ⟨hb, hr⟩ := hr
  rw [is_sl hb] at hsh
  simp only [TSh] at hsh
  simp only [den] at h1
  split at h1 <;> (try cases h1)
  simp only [Option.some.injEq] at h1
  exact fin_pure h hU hd (key 0 (by rw [← h1]; simp [Builtin.len_, run_underlying hsh])) (den_int' (x := .lit 0) (nat_i64 (n := 0) (by omega))) hr
 ·rename_i id off n c2 op
  replace hr := run_bif hr
  obtain ⟨hb, hr⟩ := hr
  simp only [Bool.and_eq_true] at hb
  rw [is_sl hb.1] at hsh
  simp only [TSh] at hsh
  obtain ⟨q, e1, e2⟩ := den_sl h1
  exact fin_pure h hU hd (key n (by rw [e2]; simp [Builtin.len_, run_underlying hsh])) (den_int' (x := .lit _) (nat_i64 (Nat.le_of_ble_eq_true hb.2))) hr
 ·rename_i j
  replace hr := run_bif hr
  obtain ⟨hb, hr⟩ := hr
  rw [is_sl hb] at hsh
  simp only [TSh] at hsh
  replace hr := run_optR hr
  obtain ⟨n, hn, hr⟩ := hr
  obtain ⟨A, k, c2, e1, e2, e3, _⟩ := hR.kl j n hn
  simp only [den, e1] at h1
  have e4 : Value.slice A k c2 = a.eval x := Option.some.inj h1
  refine fin_pure h hU hd (key k (by rw [← e4]; cases A <;> simp [Builtin.len_, run_underlying hsh])) ?_ hr
  have := den_int' (ρ := ρ) (m := m) (k := .i64) (x := n) (by rw [← e2]; exact nat_i64 e3)
  rw [← e2] at this
  exact this
 ·rename_i bs
  replace hr := run_bif hr
  obtain ⟨hb, hr⟩ := hr
  simp only [Bool.and_eq_true] at hb
  rw [is_str hb.1] at hsh
  simp only [TSh] at hsh
  simp only [den, Option.some.injEq] at h1
  have hsz : (⟨bs.toArray⟩ : ByteArray).size = List.length bs := by show bs.toArray.size = _; simp
  exact fin_pure h hU hd (key bs.length (by rw [← h1]; simp [Builtin.len_, run_underlying hsh, hsz])) (den_int' (x := .lit _) (nat_i64 (Nat.le_of_ble_eq_true hb.2))) hr
 ·split at hr
  ·rename_i n u hty
   replace hr := run_bif hr
   obtain ⟨hb, hr⟩ := hr
   rw [hty] at hsh
   simp only [TSh] at hsh
   exact fin_pure h hU hd (key n (by simp [Builtin.len_, run_underlying hsh.1])) (den_int' (x := .lit _) (nat_i64 (Nat.le_of_ble_eq_true hb))) hr
  ·exact run_fail hr
 ·exact run_fail hr
theorem op_min (hR : RngOk ρ Γ.R) (h : Rep P ρ N S H m a w) (hU : ∀ id, m id ≠ none → U id) (hd : ∀ d, o.dst = some d → d < N) {c : Call} {x y : Operand} (ho : o.op = .call c) (hc : c.callee = .builtin .min) (ha : c.args = #[x, y])
  (hr : (opdR x fun v => opdR y (evMin Γ fresh o v)).run S H = some r) : o.wp P a w (After P ρ N U fresh S H m r) Q := by
 replace hr := opdR_ok h hr
 obtain ⟨v, h1, hr⟩ := hr
 replace hr := opdR_ok h hr
 obtain ⟨u, h2, hr⟩ := hr
 unfold evMin at hr
 split at hr
 ·rename_i k p k' q
  replace hr := run_bif hr
  obtain ⟨hb, hr⟩ := hr
  have := same_kind hb
  subst this
  replace hr := run_optR hr
  obtain ⟨t, ht, hr⟩ := hr
  have hlt := ivLt_ok hR ht
  obtain ⟨e1, b1⟩ := den_int h1
  obtain ⟨e2, b2⟩ := den_int h2
  refine fin_pure h hU hd (v := .int k (if q.ev ρ < p.ev ρ then q.ev ρ else p.ev ρ)) ?_ ?_ hr
  ·simp [execOp, ho, resolve, hc, ha, invoke, builtin, Builtin.min_, e1, e2, Builtin.min2]
  ·rw [hlt]
   by_cases hq : q.ev ρ < p.ev ρ
   ·simp only [hq, decide_true, cond_true, if_true]; exact den_int' b2
   ·simp only [hq, decide_false, cond_false, if_false]; exact den_int' b1
 ·exact run_fail hr
theorem op_max (hR : RngOk ρ Γ.R) (h : Rep P ρ N S H m a w) (hU : ∀ id, m id ≠ none → U id) (hd : ∀ d, o.dst = some d → d < N) {c : Call} {x y : Operand} (ho : o.op = .call c) (hc : c.callee = .builtin .max) (ha : c.args = #[x, y])
  (hr : (opdR x fun v => opdR y (evMax Γ fresh o v)).run S H = some r) : o.wp P a w (After P ρ N U fresh S H m r) Q := by
 replace hr := opdR_ok h hr
 obtain ⟨v, h1, hr⟩ := hr
 replace hr := opdR_ok h hr
 obtain ⟨u, h2, hr⟩ := hr
 unfold evMax at hr
 split at hr
 ·rename_i k p k' q
  replace hr := run_bif hr
  obtain ⟨hb, hr⟩ := hr
  have := same_kind hb
  subst this
  replace hr := run_optR hr
  obtain ⟨t, ht, hr⟩ := hr
  have hlt := ivLt_ok hR ht
  obtain ⟨e1, b1⟩ := den_int h1
  obtain ⟨e2, b2⟩ := den_int h2
  refine fin_pure h hU hd (v := .int k (if p.ev ρ < q.ev ρ then q.ev ρ else p.ev ρ)) ?_ ?_ hr
  ·simp [execOp, ho, resolve, hc, ha, invoke, builtin, Builtin.max_, e1, e2, Builtin.max2]
  ·rw [hlt]
   by_cases hq : p.ev ρ < q.ev ρ
   ·simp only [hq, decide_true, cond_true, if_true]; exact den_int' b2
   ·simp only [hq, decide_false, cond_false, if_false]; exact den_int' b1
 ·exact run_fail hr
def OptR (ρ : En) (m : Mp) (a : Act) : Option Operand → Option HV → Prop
 | none, none => True
 | some x, some v => den ρ m v = some (a.eval x)
 | _, _ => False
theorem optOpd_ok (h : Rep P ρ N S H m a w) {x : Option Operand} {k : Option HV → RT} (hr : (optOpd x k).run S H = some r) : ∃ v : Option HV, OptR ρ m a x v ∧ (k v).run S H = some r := by
 cases x with
 | none => exact ⟨none, trivial, hr⟩
 | some x =>
  simp only [optOpd] at hr
  replace hr := opdR_ok h hr
  obtain ⟨v, h1, hr⟩ := hr
  exact ⟨some v, h1, hr⟩
theorem litO_ok {x : Option Operand} {v : Option HV} {n : Option Nat} (hv : OptR ρ m a x v) (h : litO v = some n) : ∃ κ, x.map a.eval = n.map fun i : Nat => Value.int κ (i : Int) := by
 cases x <;> cases v <;> simp only [OptR] at hv
 ·simp only [litO] at h; cases h; exact ⟨.i64, rfl⟩
 ·rename_i x v
  simp only [litO] at h
  split at h
  ·rename_i k hk
   cases h
   obtain ⟨κ, e⟩ := litN_ok hk hv
   exact ⟨κ, by simp [e]⟩
  ·cases h
theorem bounds_ok {b : Bool} {n c : Nat} {lo hi mx : Option Nat} {κ1 κ2 κ3 : IntKind} (h1 : lo.getD 0 ≤ hi.getD n) (h2 : hi.getD n ≤ mx.getD c) (h3 : mx.getD c ≤ c) (h4 : (hi.isSome || !mx.isSome) = true) :
  (Instr.sliceBounds b n c (lo.map (fun i : Nat => .int κ1 (i : Int))) (hi.map (fun i : Nat => .int κ2 (i : Int))) (mx.map (fun i : Nat => .int κ3 (i : Int)))).run P w = .ok (lo.getD 0, hi.getD n, mx.getD c) w := by
 have key : ∀ (κ : IntKind) (v : Nat) (y : Nat) (code : BoundsCode), v ≤ y → (Instr.sliceBound (.int κ (v : Int)) y code).run P w = .ok v w := by
  intro κ v y code q
  simp only [Instr.sliceBound, asIntOf, Sem.run_bind, Sem.run_pure, Result.andThen_ok, if_pos (⟨by omega, by omega⟩ : (0 : Int) ≤ (v : Int) ∧ (v : Int) ≤ (y : Int)), Int.toNat_natCast]
 cases lo <;> cases hi <;> cases mx <;> simp only [Option.getD_some, Option.getD_none, Option.isSome_none, Option.isSome_some, Bool.not_true, Bool.not_false, Bool.or_false, Bool.or_true, Bool.false_eq_true] at h1 h2 h3 h4 <;>
  simp only [Instr.sliceBounds, Option.map_some, Option.map_none, Sem.run_bind, Sem.run_pure, Result.andThen_ok, Option.getD_some, Option.getD_none]
 case none.some.none => rw [key _ _ _ _ (by omega)]; rfl
 case none.some.some => rw [key _ _ _ _ (by omega)]; simp only [Result.andThen_ok]; rw [key _ _ _ _ (by omega)]; rfl
 case some.none.none => rw [key _ _ _ _ (by omega)]; rfl
 case some.some.none => rw [key _ _ _ _ (by omega)]; simp only [Result.andThen_ok]; rw [key _ _ _ _ (by omega)]; rfl
 case some.some.some => rw [key _ _ _ _ (by omega)]; simp only [Result.andThen_ok]; rw [key _ _ _ _ (by omega)]; simp only [Result.andThen_ok]; rw [key _ _ _ _ (by omega)]; rfl
theorem den_es {id o1 o2 : Nat} {x : Value} (h : den ρ m (.es id o1 o2) = some x) : ∃ q, m id = some q ∧ x = .slice (some ⟨q.1, bif Nat.beq q.2 0 then o1 else o2, none⟩) 0 q.2 := by
 simp only [den] at h
 split at h
 ·rename_i q hq; cases h; exact ⟨q, hq, rfl⟩
 ·cases h
theorem den_os {id : Nat} {k : IV} {x : Value} (h : den ρ m (.os id k) = some x) : ∃ q, m id = some q ∧ ((q.2 % osB : Nat) : Int) ≤ k.ev ρ ∧ x = .slice (some ⟨q.1, 0, none⟩) (q.2 % osB) (q.2 / osB) := by
 simp only [den] at h
 split at h
 ·rename_i q hq
  cases hb : decide (((q.2 % osB : Nat) : Int) ≤ k.ev ρ) <;> rw [hb] at h <;> cases h
  exact ⟨q, hq, of_decide_eq_true hb, rfl⟩
 ·cases h
theorem op_slice (hT : TysOk P Γ.tys) (hR : RngOk ρ Γ.R) (h : Rep P ρ N S H m a w) (hU : ∀ id, m id ≠ none → U id) (hd : ∀ d, o.dst = some d → d < N) {t : TypeId} {x : Operand} {lo hi mx : Option Operand} (ho : o.op = .slice t x lo hi mx)
  (hr : (tyR Γ t fun ti => opdR x fun v => optOpd lo fun lo => optOpd hi fun hi => optOpd mx fun mx => evSlice Γ fresh o ti v (litO lo) (litO hi) (litO mx)).run S H = some r) : o.wp P a w (After P ρ N U fresh S H m r) Q := by
 replace hr := tyR_ok hT hr
 obtain ⟨ti, hti, hr⟩ := hr
 have hsh := hti.shape
 replace hr := opdR_ok h hr
 obtain ⟨v, h1, hr⟩ := hr
 replace hr := optOpd_ok h hr
 obtain ⟨lo1, g1, hr⟩ := hr
 replace hr := optOpd_ok h hr
 obtain ⟨hi1, g2, hr⟩ := hr
 replace hr := optOpd_ok h hr
 obtain ⟨mx1, g3, hr⟩ := hr
 unfold evSlice at hr
 split at hr
 ·rename_i lo2 hi2 mx2 l1 l2 l3
  replace hr := run_bif hr
  obtain ⟨hss, hr⟩ := hr
  obtain ⟨κ1, e1⟩ := litO_ok g1 l1
  obtain ⟨κ2, e2⟩ := litO_ok g2 l2
  obtain ⟨κ3, e3⟩ := litO_ok g3 l3
  unfold sliceR at hr
  split at hr
  ·replace hr := tyR_ok hT hr
   obtain ⟨te, hte, hr⟩ := hr
   replace hr := run_bif hr
   obtain ⟨hb, hr⟩ := hr
   simp only [Bool.and_eq_true] at hb
   obtain ⟨⟨⟨⟨b1, b2⟩, b3⟩, b4⟩, b5⟩ := hb
   have b2 := Nat.eq_of_beq_eq_true b2
   have b3 := Nat.eq_of_beq_eq_true b3
   have b4 := Nat.eq_of_beq_eq_true b4
   rw [is_sl b1] at hsh
   simp only [TSh] at hsh
   simp only [den, Option.some.injEq] at h1
   have hrun := bounds_ok (P := P) (w := w) (b := true) (n := 0) (c := 0) (lo := lo2) (hi := hi2) (mx := mx2) (κ1 := κ1) (κ2 := κ2) (κ3 := κ3) (by omega) (by omega) (by omega) (by simpa using b5)
   rw [b2, b3, b4] at hrun
   refine fin_pure h hU hd (v := .slice none 0 0) ?_ rfl hr
   simp only [execOp, ho, Instr.sliceAt, Sem.run_bind, run_underlying hsh, Result.andThen_ok, ← h1, Instr.slice, e1, e2, e3, hrun, run_sizeOf hte.eok, Sem.run_pure]
   rfl
  ·rename_i id off n c op
   replace hr := tyR_ok hT hr
   obtain ⟨te, hte, hr⟩ := hr
   obtain ⟨q, w1, w2⟩ := den_sl h1
   split at hr
   ·rename_i mm
    replace hr := run_bif hr
    obtain ⟨hb, hr⟩ := hr
    simp only [Bool.and_eq_true] at hb
    obtain ⟨⟨⟨⟨b1, b2⟩, b3⟩, b4⟩, b5⟩ := hb
    have b2 := Nat.le_of_ble_eq_true b2
    have b3 := Nat.le_of_ble_eq_true b3
    have b4 := Nat.le_of_ble_eq_true b4
    rw [is_sl b1] at hsh
    simp only [TSh] at hsh
    have hrun := bounds_ok (P := P) (w := w) (b := true) (n := n) (c := c + bif op then q.2 else 0) (lo := lo2) (hi := hi2) (mx := some mm) (κ1 := κ1) (κ2 := κ2) (κ3 := κ3) b2 b3 (by show mm ≤ _; omega) (by rw [b5]; rfl)
    refine fin_pure h hU hd (v := .slice (some (if mm = lo2.getD 0 then ⟨q.1, off, none⟩ else (⟨q.1, off, none⟩ : Addr).add (lo2.getD 0 * te.ty.size))) (hi2.getD n - lo2.getD 0) (mm - lo2.getD 0)) ?_ ?_ hr
    ·simp only [execOp, ho, Instr.sliceAt, Sem.run_bind, run_underlying hsh, Result.andThen_ok, w2, Instr.slice, e1, e2, e3, hrun, run_sizeOf hte.eok, Sem.run_pure, Option.getD_some]
     congr 4
     split <;> rfl
    ·simp only [den, w1, cond_false, Nat.add_zero, Addr.add_mid]
     congr 3
     cases hbq : Nat.beq mm (lo2.getD 0)
     ·rw [if_neg (fun e => by rw [e] at hbq; simp at hbq)]; rfl
     ·rw [if_pos (Nat.eq_of_beq_eq_true hbq)]; rfl
   ·replace hr := run_bif hr
    obtain ⟨hb, hr⟩ := hr
    simp only [Bool.and_eq_true] at hb
    obtain ⟨⟨b1, b2⟩, b3⟩ := hb
    have b2 := Nat.le_of_ble_eq_true b2
    have b3 := Nat.le_of_ble_eq_true b3
    rw [is_sl b1] at hsh
    simp only [TSh] at hsh
    obtain ⟨s, hs⟩ : ∃ s, s = bif op then q.2 else 0 := ⟨_, rfl⟩
    have hrun := bounds_ok (P := P) (w := w) (b := true) (n := n) (c := c + s) (lo := lo2) (hi := hi2) (mx := none) (κ1 := κ1) (κ2 := κ2) (κ3 := κ3) b2 (by show _ ≤ c + s; omega) (Nat.le_refl _) (by simp)
    rw [← hs] at w2
    have hex : (execOp a.eval o).run P w = .ok (.value (.slice (some (if c + s = lo2.getD 0 then ⟨q.1, off, none⟩ else (⟨q.1, off, none⟩ : Addr).add (lo2.getD 0 * te.ty.size))) (hi2.getD n - lo2.getD 0) (c + s - lo2.getD 0))) w := by
     simp only [execOp, ho, Instr.sliceAt, Sem.run_bind, run_underlying hsh, Result.andThen_ok, w2, Instr.slice, e1, e2, e3, hrun, run_sizeOf hte.eok, Sem.run_pure, Option.getD_none]
     congr 4
     split <;> rfl
    cases hcase : (!op || Nat.beq (lo2.getD 0) 0 || Nat.blt (lo2.getD 0) c)
    ·rw [hcase] at hr
     simp only [cond_false] at hr
     simp only [Bool.or_eq_false_iff, Bool.not_eq_false'] at hcase
     obtain ⟨⟨c1, c2⟩, c3⟩ := hcase
     subst c1
     simp only [cond_true] at hs
     have c3' : ¬ lo2.getD 0 < c := fun hl => by
      have : Nat.blt (lo2.getD 0) c = true := Nat.ble_eq_true_of_le hl
      rw [c3] at this; cases this
     refine fin_pure h hU hd hex ?_ hr
     have ec : c = lo2.getD 0 := by omega
     have eh : hi2.getD n = lo2.getD 0 := by omega
     simp only [den, w1, Addr.add_mid]
     rw [eh, Nat.sub_self, ← ec, Nat.add_sub_cancel_left, hs]
     congr 3
     cases hbq : Nat.beq q.2 0
     ·rw [if_neg (fun e => by have h0 : q.2 = 0 := (by omega); rw [h0] at hbq; simp at hbq)]; rfl
     ·have := Nat.eq_of_beq_eq_true hbq
      rw [if_pos (by omega)]; rfl
    ·rw [hcase] at hr
     simp only [cond_true] at hr
     refine fin_pure h hU hd hex ?_ hr
     simp only [den, w1, Addr.add_mid, ← hs]
     have e4 : c - lo2.getD 0 + s = c + s - lo2.getD 0 := by omega
     rw [e4]
     congr 3
     cases op with
     | false =>
      simp only [cond_false] at hs
      subst hs
      simp only [Bool.not_false, Bool.true_and, Nat.add_zero]
      cases hbq : Nat.beq c (lo2.getD 0)
      ·rw [if_neg (fun e => by rw [e] at hbq; simp at hbq)]; rfl
      ·rw [if_pos (Nat.eq_of_beq_eq_true hbq)]; rfl
     | true =>
      simp only [Bool.not_true, Bool.false_and, cond_false]
      simp only [Bool.not_true, Bool.false_or, Bool.or_eq_true] at hcase
      rcases hcase with hz | hz
      ·have hz := Nat.eq_of_beq_eq_true hz
       rw [hz]
       split <;> simp
      ·have hz : lo2.getD 0 < c := Nat.le_of_ble_eq_true hz
       rw [if_neg (by omega)]
  ·rename_i j
   replace hr := tyR_ok hT hr
   obtain ⟨te, hte, hr⟩ := hr
   split at hr
   ·rename_i n
    replace hr := run_bif hr
    obtain ⟨hb, hr⟩ := hr
    simp only [Bool.and_eq_true] at hb
    obtain ⟨⟨b1, b2⟩, b3⟩ := hb
    have b2 := Nat.eq_of_beq_eq_true b2
    rw [is_sl b1] at hsh
    simp only [TSh] at hsh
    have hn : n ≠ 0 := fun e => by subst e; cases b3
    replace hr := run_optR hr
    obtain ⟨kk, hk, hr⟩ := hr
    obtain ⟨A, l, c, w1, w2, w3⟩ := hR.ks j n kk hk
    simp only [den, w1] at h1
    have e4 : Value.slice (some A) l c = a.eval x := Option.some.inj h1
    have hrun := bounds_ok (P := P) (w := w) (b := true) (n := l) (c := c) (lo := lo2) (hi := some n) (mx := none) (κ1 := κ1) (κ2 := κ2) (κ3 := κ3) (by rw [b2]; exact Nat.zero_le _) w2 (Nat.le_refl _) rfl
    rw [b2] at hrun
    have hden : den ρ m (.kv kk) = some (.slice (some A) n c) := by
     simp only [den, w3]; rfl
    refine fin_pure h hU hd ?_ hden hr
    have hA : (if c = 0 then some A else some (A.add (0 * te.ty.size))) = some A := by
     split
     ·rfl
     ·rw [Nat.zero_mul]
      rfl
    simp only [execOp, ho, Instr.sliceAt, Sem.run_bind, run_underlying hsh, Result.andThen_ok, ← e4, Instr.slice, e1, e2, e3, hrun, run_sizeOf hte.eok, Sem.run_pure, Option.getD_none, Option.getD_some, Nat.sub_zero]
    first
     | rfl
     | (congr 3; done)
     | (congr 3; simpa using hA)
     | (congr 4; simpa using hA)
   ·exact run_fail hr
  ·rename_i id k
   replace hr := tyR_ok hT hr
   obtain ⟨te, hte, hr⟩ := hr
   obtain ⟨q, w1, w3, w2⟩ := den_os h1
   split at hr
   ·rename_i mm
    replace hr := run_bif hr
    obtain ⟨hb, hr⟩ := hr
    simp only [Bool.and_eq_true] at hb
    obtain ⟨⟨⟨b1, b2⟩, b3⟩, b4⟩ := hb
    have b2 := Nat.eq_of_beq_eq_true b2
    have b3 := Nat.eq_of_beq_eq_true b3
    have b4 := Nat.eq_of_beq_eq_true b4
    subst b2
    rw [is_sl b1] at hsh
    simp only [TSh] at hsh
    have hh : hi2.isSome = true ∧ ∀ n, hi2.getD n = 0 := by
     cases hi2 with
     | none => cases b3
     | some z => exact ⟨rfl, fun _ => b3⟩
    have hrun := bounds_ok (P := P) (w := w) (b := true) (n := q.2 % osB) (c := q.2 / osB) (lo := lo2) (hi := hi2) (mx := some 0) (κ1 := κ1) (κ2 := κ2) (κ3 := κ3) (by rw [b4]; exact Nat.zero_le _) (by rw [hh.2]; exact Nat.le_refl _) (Nat.zero_le _) (by rw [hh.1]; rfl)
    rw [b4, hh.2] at hrun
    refine fin_pure h hU hd (v := .slice (some ⟨q.1, 0, none⟩) 0 0) ?_ ?_ hr
    ·simp only [execOp, ho, Instr.sliceAt, Sem.run_bind, run_underlying hsh, Result.andThen_ok, w2, Instr.slice, e1, e2, e3, hrun, run_sizeOf hte.eok, Sem.run_pure, Option.getD_some]
     rfl
    ·simp only [den, w1, cond_false, Nat.add_zero]
   ·exact run_fail hr
  ·rename_i bs
   split at hr
   ·replace hr := run_bif hr
    obtain ⟨hb, hr⟩ := hr
    simp only [Bool.and_eq_true] at hb
    obtain ⟨⟨b1, b2⟩, b3⟩ := hb
    have b2 := Nat.le_of_ble_eq_true b2
    have b3 := Nat.le_of_ble_eq_true b3
    rw [is_str b1] at hsh
    simp only [TSh] at hsh
    simp only [den, Option.some.injEq] at h1
    have hsz : (⟨bs.toArray⟩ : ByteArray).size = bs.length := by show bs.toArray.size = _; simp
    have hex : (⟨bs.toArray⟩ : ByteArray).extract (lo2.getD 0) (hi2.getD bs.length) = ⟨((bs.take (hi2.getD bs.length)).drop (lo2.getD 0)).toArray⟩ := by
     apply ByteArray.ext
     rw [ByteArray.data_extract]
     apply Array.toList_inj.1
     simp only [Array.toList_extract, List.extract_eq_take_drop, List.take_drop]
     congr 2
     omega
    have hrun := bounds_ok (P := P) (w := w) (b := false) (n := bs.length) (c := bs.length) (lo := lo2) (hi := hi2) (mx := none) (κ1 := κ1) (κ2 := κ2) (κ3 := κ3) b2 b3 (Nat.le_refl _) (by simp)
    refine fin_pure h hU hd (v := .string ⟨((bs.take (hi2.getD bs.length)).drop (lo2.getD 0)).toArray⟩) ?_ rfl hr
    have z3 : mx.map a.eval = none := e3
    simp only [execOp, ho, Instr.sliceAt, Sem.run_bind, run_underlying hsh, Result.andThen_ok, ← h1, Instr.slice, e1, e2, z3, Option.isSome_none, Bool.false_eq_true, if_false, hsz]
    have hrun' : (Instr.sliceBounds false bs.length bs.length (lo2.map (fun i : Nat => .int κ1 (i : Int))) (hi2.map (fun i : Nat => .int κ2 (i : Int))) none).run P w = .ok (lo2.getD 0, hi2.getD bs.length, bs.length) w := hrun
    simp only [hrun', Result.andThen_ok, Sem.run_pure, hex]
   ·exact run_fail hr
  ·exact run_fail hr
 ·exact run_fail hr
end
end Go.Proofs.YtehbbcdhahnkgaaGreat.Hm
