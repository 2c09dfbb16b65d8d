/- The ghost machine and the machine: parts of values, loads, addresses. -/
import Derived.Test.YtehbbcdhahnkgaaGreatGmMem
import Derived.Test.YtehbbcdhahnkgaaGreatGmOpB
set_option linter.unusedVariables false
set_option linter.unusedSimpArgs false
namespace Go.Proofs.YtehbbcdhahnkgaaGreat
open Go
section
variable {P : Program} {Γ : Ctx} {E : Env} {N : Nat} {U : Nat → Prop} {ob : Nat → Value} {Z : Nat → Prop} {s : GS} {a : Act} {w : World} {ws : List Wr} {o : Oper} {fresh : Nat} {Q : Exit → Act → World → Prop}

theorem run_isAgg {e : TypeId} {t : Ty} (h : EOk P e t) : (isAgg e).run P w = .ok t.isAgg w := by
 obtain ⟨_, _, d, hu, hd⟩ := h
 unfold isAgg
 rw [Sem.run_bind, run_underlying hu w, ← hd]
 cases d <;> simp [TypeDesc.isRow]
theorem run_sizeOf {e : TypeId} {t : Ty} (h : EOk P e t) : (sizeOf e).run P w = .ok t.size w := by
 obtain ⟨h, _⟩ := h
 cases hq : P.info? e with
 | none => simp [hq] at h
 | some i => simp [hq] at h; simp [sizeOf, typeInfo, hq, h]
theorem pk_agg {t : Ty} {vs : List Value} (h : t.isAgg = true) : pk t vs = .agg vs.toArray := by simp [pk, h]
theorem pk_one {t : Ty} {v : Value} (h : t.isAgg = false) : pk t [v] = v := by simp [pk, h]
theorem DR.single {t : Ty} {x : t.den} {vs : List Value} (h : DR w Z t x vs) (ha : t.isAgg = false) : ∃ v, vs = [v] := by
 have hl := h.len
 cases t <;> simp [Ty.isAgg] at ha <;> simp [Ty.size] at hl <;> exact List.length_eq_one_iff.1 hl

theorem run_part {e : TypeId} {t : Ty} {x : t.den} {us : List Value} {cs : Array Value} {off : Nat} (he : EOk P e t) (hd : DR w Z t x us) (hc : ∀ j u, us[j]? = some u → cs.toList[off + j]? = some u) (hl : off + us.length ≤ cs.size) :
  (part e cs off).run P w = .ok (pk t us) w := by
 unfold part
 rw [Sem.run_bind, run_isAgg he]
 simp only [Result.andThen_ok]
 cases ha : t.isAgg with
 | true =>
  simp only [if_true, Sem.run_bind, run_sizeOf he, Result.andThen_ok, Sem.run_pure, pk_agg ha]
  congr 2
  apply Array.toList_inj.1
  apply List.ext_getElem?
  intro j
  have hlen := hd.len
  rcases Nat.lt_or_ge j us.length with hj | hj
  ·have := hc j us[j] (by simp [hj])
   simp only [Array.toList_extract, List.extract_eq_take_drop, List.getElem?_take, List.getElem?_drop]
   rw [if_pos (by omega), this]; simp [hj]
  ·rw [List.getElem?_eq_none (l := us.toArray.toList) (by simpa using hj), List.getElem?_eq_none (by simp; omega)]
 | false =>
  obtain ⟨v, rfl⟩ := hd.single ha
  have := hc 0 v rfl
  rw [Nat.add_zero, Array.getElem?_toList] at this
  simp only [Bool.false_eq_true, if_false, this, Sem.run_pure, pk_one ha]

theorem EOk.view {e : TypeId} {t : Ty} (h : EOk P e t) : EOk P e (viewTy t) := by cases t <;> exact h
theorem FsOk.at_ {fs : List Field} {off : Nat} {t : Ty} (h : FsOk P fs off t) : ∀ {k : Nat} {u : Ty}, fldTy t k = some u → ∃ f, fs[k]? = some f ∧ f.offset = off + fldOff t k ∧ EOk P f.type u := by
 induction h with
 | nil => intro k u hu; simp [fldTy] at hu
 | cons h1 h2 h3 ih =>
  intro k u hu
  cases k with
  | zero => simp only [fldTy] at hu; cases hu; exact ⟨_, rfl, by simpa [fldOff] using h1, EOk.view h2⟩
  | succ k =>
   simp only [fldTy] at hu
   obtain ⟨f, h4, h5, h6⟩ := ih hu
   exact ⟨f, by simpa using h4, by simp only [fldOff]; omega, h6⟩
theorem fldTy_pair {t : Ty} {k : Nat} {u : Ty} (h : fldTy t k = some u) : ∃ a b, t = .pair a b := by
 cases t with
 | pair a b => exact ⟨a, b, rfl⟩
 | _ => simp [fldTy] at h

theorem op_field (hT : TysOk P Γ) (h : RepAt E Γ.N U ob Z s a w) (hg : E.globs = Γ.globs) {t : TypeId} {x : Operand} {f : Nat} (ho : o.op = .field t x f) (hr : (evalOp Γ fresh o).run s = some ws) :
  o.wp P a w (After E Γ.N U fresh s ws) Q := by
 simp only [evalOp, ho] at hr
 replace hr := tyR_ok hr
 obtain ⟨ti, hl, hr⟩ := hr
 replace hr := svR_ok h hg hr
 obtain ⟨v, h1, h2, hr⟩ := hr
 split at hr
 ·rename_i t' y
  replace hr := run_cond hr
  obtain ⟨hs, hr⟩ := hr
  have hte := Ty.same_eq hs
  have hti := (hT _ _ hl).shape
  split at hr
  ·rename_i z hz
   have hft := fld_some hz
   obtain ⟨A, B, rfl⟩ := fldTy_pair hft
   rw [← hte] at hti
   simp only [TSh] at hti
   obtain ⟨fs, hu, hfs⟩ := hti
   obtain ⟨fl, h3, h4, h5⟩ := hfs.at_ hft
   obtain ⟨vs, hd, hv⟩ := h1
   obtain ⟨us, h6, h7, h8⟩ := fld_DR hd hz
   refine fin_pure h (v := pk z.1 us) ?_ (show VR w Z ob (.sv (.data z.1 z.2)) _ from ⟨us, h6, rfl⟩) trivial hr
   have hp := run_part (P := P) (cs := vs.toArray) (off := fl.offset) h5 h6 (fun j u hu => by rw [h4, Nat.zero_add]; exact h7 j u hu) (by rw [h4, Nat.zero_add]; simpa using h8)
   simp only [execOp, ho, Instr.field, Sem.run_bind, run_underlying hu, Result.andThen_ok, hv, pk_agg (show (Ty.pair A B).isAgg = true from rfl), asAgg, Sem.run_pure]
   rw [show fs[f]? = some fl by rw [← Array.getElem?_toList]; exact h3]
   simp only [Sem.run_bind, Sem.run_pure, Result.andThen_ok, hp]
  ·exact run_fail hr
 ·exact run_fail hr

theorem inR_nat {i : Int} {n : Nat} (h : inR i n = true) : ∃ k : Nat, i = k ∧ k < n ∧ i.toNat = k := by
 simp only [inR, Bool.and_eq_true, decide_eq_true_eq] at h
 exact ⟨i.toNat, by omega, by omega, rfl⟩

theorem run_index_arr {t e : TypeId} {n : Nat} {u : Ty} {xs : List u.den} {v iv : Value} {kd : IntKind} {i : Nat} (hu : P.underlying t = some (.array n e)) (he : EOk P e u) (h1 : SR w Z ob (.data (.arr n u) xs) v) (hi : iv = .int kd (i : Int)) (hn : i < n) :
  ∃ z, (Instr.index t v iv).run P w = .ok z w ∧ SR w Z ob (.data u (xs.getD i u.zero)) z := by
 obtain ⟨vs, ⟨hl, uss, rfl, ha⟩, hv⟩ := h1
 obtain ⟨us, h3, h4, h5, _⟩ := elem_DR ha (show i < List.length xs by omega) u.zero
 refine ⟨pk u us, ?_, us, h3, rfl⟩
 subst hi
 rw [pk_agg (show (Ty.arr n u).isAgg = true from rfl)] at hv
 subst hv
 have hp := run_part (P := P) (cs := uss.flatten.toArray) (off := i * u.size) he h3 (fun j w hw => h4 j w hw) (by simpa using h5)
 have c : (0 : Int) ≤ (i : Int) ∧ (i : Int) < (n : Int) := ⟨by omega, by omega⟩
 simp only [Instr.index, asIntOf, Sem.run_bind, Sem.run_pure, Result.andThen_ok, run_underlying hu, if_pos c, run_sizeOf he, Int.toNat_natCast, hp]

theorem op_index (hT : TysOk P Γ) (h : RepAt E Γ.N U ob Z s a w) (hg : E.globs = Γ.globs) {t : TypeId} {x i : Operand} (ho : o.op = .index t x i) (hr : (evalOp Γ fresh o).run s = some ws) :
  o.wp P a w (After E Γ.N U fresh s ws) Q := by
 simp only [evalOp, ho] at hr
 replace hr := tyR_ok hr
 obtain ⟨ti, hl, hr⟩ := hr
 replace hr := svR_ok h hg hr
 obtain ⟨v, h1, h2, hr⟩ := hr
 replace hr := svR_ok h hg hr
 obtain ⟨iv, h3, h4, hr⟩ := hr
 have hti := (hT _ _ hl).shape
 split at hr
 ·rename_i n u xs
  replace hr := run_cond hr
  obtain ⟨hs, hr⟩ := hr
  rw [← Ty.same_eq hs] at hti
  simp only [TSh] at hti
  split at hr
  ·replace hr := run_chk hr
   obtain ⟨hb, hr⟩ := hr
   obtain ⟨k, hk, hkn, hkt⟩ := inR_nat hb
   obtain ⟨z, hz, hz'⟩ := run_index_arr (iv := a.eval i) hti.1 hti.2 h1 (by rw [h3.i64.1, hk]) hkn
   rw [hkt] at hr
   exact fin_pure h (by simp only [execOp, ho, Sem.run_bind, hz]; rfl) (show VR w Z ob (.sv (.data u (List.getD xs k u.zero))) z from hz') trivial hr
  ·rename_i j
   replace hr := run_chk hr
   obtain ⟨hb, hr⟩ := hr
   obtain ⟨k, hk, hkn, hkt⟩ := inR_nat hb
   have hk' : j.toNat = k := by omega
   obtain ⟨z, hz, hz'⟩ := run_index_arr (iv := a.eval i) hti.1 hti.2 h1 (by rw [h3.u8, hk']) hkn
   rw [← hk'] at hz'
   exact fin_pure h (by simp only [execOp, ho, Sem.run_bind, hz]; rfl) (show VR w Z ob (.sv (.data u (List.getD xs j.toNat u.zero))) z from hz') trivial hr
  ·exact run_fail hr
 ·rename_i xs
  replace hr := run_cond hr
  obtain ⟨hs, hr⟩ := hr
  rw [Ty.same_eq hs] at hti
  simp only [TSh] at hti
  obtain ⟨hv, _⟩ := h1.str
  have key : ∀ (kd : IntKind) (k : Nat), k < List.length xs → (Instr.index t (.string ⟨xs.toArray⟩) (.int kd (k : Int))).run P w = .ok (.int .u8 ((xs.getD k 0).toNat : Int)) w := by
   intro kd k hk
   have e : (⟨xs.toArray⟩ : ByteArray)[(k : Int).toNat]? = some (xs.getD k 0) := by
    rw [Int.toNat_natCast]
    have hk2 : k < (⟨xs.toArray⟩ : ByteArray).size := by simpa [ByteArray.size] using hk
    rw [getElem?_pos (⟨xs.toArray⟩ : ByteArray) k hk2]
    congr 1
    show xs.toArray[k] = _
    simp [List.getD, List.getElem?_eq_getElem hk]
   simp only [Instr.index, asIntOf, Sem.run_bind, Sem.run_pure, Result.andThen_ok, run_underlying hti, if_pos (show (0 : Int) ≤ (k : Int) by omega), e]
  split at hr
  ·replace hr := run_chk hr
   obtain ⟨hb, hr⟩ := hr
   obtain ⟨k, hk, hkn, hkt⟩ := inR_nat hb
   rw [hkt] at hr
   exact fin_pure h (by simp only [execOp, ho, hv, h3.i64.1, hk, Sem.run_bind, key _ _ hkn]; rfl) (vr (sr_u8 _)) trivial hr
  ·rename_i j
   replace hr := run_chk hr
   obtain ⟨hb, hr⟩ := hr
   obtain ⟨k, hk, hkn, hkt⟩ := inR_nat hb
   have hk' : j.toNat = k := by omega
   exact fin_pure h (by simp only [execOp, ho, hv, h3.u8, Sem.run_bind, key _ j.toNat (by omega)]; rfl) (vr (sr_u8 _)) trivial hr
  ·exact run_fail hr
 ·exact run_fail hr

theorem All2.at_ {α β : Type} {R : α → β → Prop} {as : List α} {bs : List β} (h : All2 R as bs) {i : Nat} {x : α} (hx : as[i]? = some x) : ∃ y, bs[i]? = some y ∧ R x y := All2.get i x h hx
theorem op_extract (h : RepAt E Γ.N U ob Z s a w) (hg : E.globs = Γ.globs) {x : Operand} {i : Nat} (ho : o.op = .extract x i) (hr : (evalOp Γ fresh o).run s = some ws) :
  o.wp P a w (After E Γ.N U fresh s ws) Q := by
 simp only [evalOp, ho] at hr
 replace hr := opdR_ok h hg hr
 obtain ⟨g, h1, h2, hr⟩ := hr
 split at hr
 ·rename_i l
  split at hr
  ·rename_i v hv
   obtain ⟨us, h3, h4⟩ := h1
   obtain ⟨u, h5, h6⟩ := h4.at_ hv
   refine fin_pure h (v := u) ?_ (show VR w Z ob (.sv v) u from h6) (h2 v (List.mem_of_getElem? hv)) hr
   simp [execOp, ho, h3, Instr.extract, h5]
  ·exact run_fail hr
 ·exact run_fail hr

theorem op_nilCheck (h : RepAt E Γ.N U ob Z s a w) (hg : E.globs = Γ.globs) {x : Operand} (ho : o.op = .nilCheck x) (hr : (evalOp Γ fresh o).run s = some ws) :
  o.wp P a w (After E Γ.N U fresh s ws) Q := by
 simp only [evalOp, ho] at hr
 replace hr := opdR_ok h hg hr
 obtain ⟨g, h1, h2, hr⟩ := hr
 split at hr
 ·have h1' := h1
  obtain ⟨b, _, h4, _⟩ := h1'
  exact fin_pure h (v := a.eval x) (by simp [execOp, ho, h4]) h1 h2 hr
 ·have h1' := h1
  obtain ⟨b, off, vs, h4, _⟩ := h1'
  exact fin_pure h (v := a.eval x) (by simp [execOp, ho, h4]) h1 h2 hr
 ·have h1' := h1
  obtain ⟨us, h4, _⟩ := h1'
  exact fin_pure h (v := a.eval x) (by simp [execOp, ho, h4]) h1 h2 hr
 ·exact run_fail hr
end
end Go.Proofs.YtehbbcdhahnkgaaGreat
