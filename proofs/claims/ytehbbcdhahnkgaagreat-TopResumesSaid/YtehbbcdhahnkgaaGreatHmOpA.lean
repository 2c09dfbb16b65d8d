/- The heap machine and the machine: operations that do not touch objects. -/
import Derived.Test.YtehbbcdhahnkgaaGreatHmW
set_option linter.unusedVariables false
set_option linter.unusedSimpArgs false
namespace Go.Proofs.YtehbbcdhahnkgaaGreat.Hm
open Go
section
variable {P : Program} {ρ : En} {R : Rng} {m : Mp} {w : World}
theorem eqOp_ok {op : BinOp} {e : Option Bool} {r : HV} (h : eqOp op e = some r) : ∃ b, e = some b ∧ ((op = .eql ∧ r = .b b) ∨ (op = .neq ∧ r = .b (!b))) := by
  unfold eqOp at h
  split at h
  · obtain ⟨b, h1, h2⟩ := isB_ok h; exact ⟨b, h1, .inl ⟨rfl, h2⟩⟩
  · obtain ⟨b, h1, h2⟩ := notB_ok h; exact ⟨b, h1, .inr ⟨rfl, h2⟩⟩
  · cases h
theorem cmpB_formed {d : Nat} {i : TypeId} {t : Ty} {vs : List Value} (h : cmpB P d i t = true) (ht : t.isAgg = true) (hl : vs.length = t.size) : Value.formed P i (.agg vs.toArray) = true := by
  cases d with
  | zero => simp [cmpB] at h
  | succ d =>
    unfold cmpB at h
    split at h <;> simp [Ty.isAgg] at ht <;> rename_i hu
    · simp only [Bool.and_eq_true] at h
      have h2 := Nat.eq_of_beq_eq_true h.1.1.2
      simp [Value.formed, hu, h2, hl, Ty.size]
    · simp only [Bool.and_eq_true] at h
      have h2 := Nat.eq_of_beq_eq_true h.1
      simp [Value.formed, hu, h2, hl, Ty.size]
    · cases h
theorem agg_eq (hR : RngOk ρ R) {i : TypeId} {t : Ty} {cs ds : List HV} {vs us : List Value} {xo yo : Operand} (hc : cmpT P i t = true) (ht : t.isAgg = true) (h1 : fitsT t cs = true) (h2 : fitsT t ds = true) (hx : denL ρ m cs = some vs) (hy : denL ρ m ds = some us) {b : Bool} (hb : cellsEq R cs ds = some b) :
    (do eqGuard .eql i xo yo (.agg vs.toArray) (.agg us.toArray); binOp .eql i (.agg vs.toArray) (.agg us.toArray)).run P w = .ok (.bool b) w ∧ (do eqGuard .neq i xo yo (.agg vs.toArray) (.agg us.toArray); binOp .neq i (.agg vs.toArray) (.agg us.toArray)).run P w = .ok (.bool (!b)) w := by
  simp only [cmpT, Bool.and_eq_true, Bool.not_eq_true'] at hc
  obtain ⟨⟨c1, c2⟩, c3⟩ := hc
  have k1 := keyLits_ok 12 c1 h1 hx
  have k2 := keyLits_ok 12 c1 h2 hy
  have l1 : vs.length = t.size := (denL_length hx).trans (fitsT_length h1)
  have l2 : us.length = t.size := (denL_length hy).trans (fitsT_length h2)
  obtain ⟨r, hr, hiff⟩ := run_equalIn_deep 9988 12 i c2 w 12 12 (.agg vs.toArray) (.agg us.toArray) _ _ (cmpB_formed c1 ht l1) (cmpB_formed c1 ht l2) (by simpa [Value.cells] using k1) (by simpa [Value.cells] using k2)
  have hre : r = b := by
    rw [Bool.eq_iff_iff, hiff]
    exact (cellsEq_ok hR hb).symm
  subst hre
  have g : ∀ op, (eqGuard op i xo yo (.agg vs.toArray) (.agg us.toArray)).run P w = .ok () w := by
    intro op
    unfold eqGuard
    split <;> simp [c3]
  constructor
  · rw [Sem.run_bind, g, Result.andThen_ok, run_eql_struct, hr]; rfl
  · rw [Sem.run_bind, g, Result.andThen_ok, run_neq_struct, hr]; rfl
theorem equalIn_nil (d : Nat) {i : TypeId} {ti : TI} {x y : HV} {xv yv : Value} {b : Bool} (hti : TOk P i ti) (h : nilEq ti.ty x y = some b) (hx : den ρ m x = some xv) (hy : den ρ m y = some yv) :
    (Op.equalIn (d + 1) i xv yv).run P w = .ok b w ∧ (∀ op xo yo, (eqGuard op i xo yo xv yv).run P w = .ok () w) ∧ binOp .eql i xv yv = (do pure (.bool (← Op.equal i xv yv))) ∧ binOp .neq i xv yv = (do pure (.bool (!(← Op.equal i xv yv)))) := by
  have hs := hti.shape
  unfold nilEq at h
  split at h <;> (first | cases h | skip) <;> rename_i ht <;> rw [ht] at hs <;> simp only [TSh] at hs
  all_goals simp only [den] at hx hy
  all_goals (try (split at hx <;> (first | cases hx | skip)))
  all_goals (try (split at hy <;> (first | cases hy | skip)))
  all_goals (try cases hx)
  all_goals (try cases hy)
  all_goals
    refine ⟨?_, fun op xo yo => ?_, rfl, rfl⟩
    · first
        | (simp [Op.equalIn, run_underlying hs]; done)
        | (obtain ⟨ps, rs, v, hs⟩ := hs; simp [Op.equalIn, run_underlying hs]; done)
    · unfold eqGuard; split <;> simp
theorem nil_equal {i : TypeId} {ti : TI} {x y : HV} {xv yv : Value} {b : Bool} (hti : TOk P i ti) (h : nilEq ti.ty x y = some b) (hx : den ρ m x = some xv) (hy : den ρ m y = some yv) :
    (Op.equal i xv yv).run P w = .ok b w ∧ (∀ op xo yo, (eqGuard op i xo yo xv yv).run P w = .ok () w) ∧ binOp .eql i xv yv = (do pure (.bool (← Op.equal i xv yv))) ∧ binOp .neq i xv yv = (do pure (.bool (!(← Op.equal i xv yv)))) := equalIn_nil 9999 hti h hx hy
theorem equalIn_bool {t : TypeId} (d : Nat) (hu : P.underlying t = some .bool) (a b : Bool) : (Op.equalIn (d + 1) t (.bool a) (.bool b)).run P w = .ok (a == b) w := by
  simp [Op.equalIn, run_underlying hu]
theorem equal_bool {t : TypeId} (hu : P.underlying t = some .bool) (a b : Bool) : (Op.equal t (.bool a) (.bool b)).run P w = .ok (a == b) w := equalIn_bool 9999 hu a b
theorem binH_ok (hR : RngOk ρ R) {T : Option TI} {op : BinOp} {t : TypeId} {x y r : HV} {xv yv : Value} {xo yo : Operand} (hT : ∀ ti, T = some ti → TOk P t ti) (hx : den ρ m x = some xv) (hy : den ρ m y = some yv) (h : binH R T op x y = some r) :
    BinOk P ρ m w r (do eqGuard op t xo yo xv yv; binOp op t xv yv) := by
  unfold binH at h
  split at h
  · rename_i k a k' b
    obtain ⟨rfl, ha⟩ := den_int hx
    obtain ⟨rfl, hb⟩ := den_int hy
    exact binI_ok hR ha h
  · rename_i a b
    simp only [den, Option.some.injEq] at hx hy
    subst hx; subst hy
    obtain ⟨c, h1, h2⟩ := eqOp_ok h
    simp only [Option.some.injEq] at h1
    subst h1
    have hb : ((⟨a.toArray⟩ : ByteArray).toList == (⟨b.toArray⟩ : ByteArray).toList) = decide (a = b) := by
      rw [ByteArray.toList_eq, ByteArray.toList_eq, Bool.eq_iff_iff]; simp
    rcases h2 with ⟨rfl, rfl⟩ | ⟨rfl, rfl⟩
    · exact ⟨_, by simp only [Sem.run_bind, eqGuard_str, Result.andThen_ok, binOp, Op.stringOp, hb, Sem.run_pure], rfl⟩
    · exact ⟨_, by simp only [Sem.run_bind, eqGuard_str, Result.andThen_ok, binOp, Op.stringOp, hb, Sem.run_pure], rfl⟩
  · split at h
    · rename_i ti
      have hti := hT ti rfl
      unfold binT at h
      split at h
      · rename_i a b _ _
        cases hb : isBoolT ti.ty <;> rw [hb] at h <;> (try cases h)
        have hs := hti.shape
        have hty : ti.ty = .bool := by cases hq : ti.ty <;> rw [hq] at hb <;> first | rfl | cases hb
        rw [hty] at hs
        simp only [TSh] at hs
        simp only [den, Option.some.injEq] at hx hy
        subst hx; subst hy
        obtain ⟨c, h1, h2⟩ := eqOp_ok h
        simp only [Option.some.injEq] at h1
        subst h1
        have he := equal_bool (w := w) hs a b
        rcases h2 with ⟨rfl, rfl⟩ | ⟨rfl, rfl⟩
        · exact ⟨_, by simp only [Sem.run_bind, eqGuard_bool, Result.andThen_ok, binOp, he, Sem.run_pure], rfl⟩
        · exact ⟨_, by simp only [Sem.run_bind, eqGuard_bool, Result.andThen_ok, binOp, he, Sem.run_pure], rfl⟩
      · rename_i a b _ _
        cases hb : (ti.cmp && ti.ty.isAgg && fitsT ti.ty a && fitsT ti.ty b) <;> rw [hb] at h <;> (try cases h)
        simp only [Bool.and_eq_true] at hb
        obtain ⟨⟨⟨b1, b2⟩, b3⟩, b4⟩ := hb
        obtain ⟨c, h1, h2⟩ := eqOp_ok h
        simp only [den] at hx hy
        split at hx <;> (try cases hx)
        rename_i vs _ hvs
        split at hy <;> (try cases hy)
        rename_i us _ hus
        obtain ⟨e1, e2⟩ := agg_eq (P := P) (w := w) (xo := xo) (yo := yo) hR (hti.eqs b1) b2 b3 b4 hvs hus h1
        rcases h2 with ⟨rfl, rfl⟩ | ⟨rfl, rfl⟩
        · exact ⟨_, e1, rfl⟩
        · exact ⟨_, e2, rfl⟩
      · obtain ⟨c, h1, h2⟩ := eqOp_ok h
        obtain ⟨e1, e2, e3, e4⟩ := nil_equal (P := P) (w := w) hti h1 hx hy
        rcases h2 with ⟨rfl, rfl⟩ | ⟨rfl, rfl⟩
        · exact ⟨_, by rw [Sem.run_bind, e2, Result.andThen_ok, e3, Sem.run_bind, e1]; rfl, rfl⟩
        · exact ⟨_, by rw [Sem.run_bind, e2, Result.andThen_ok, e4, Sem.run_bind, e1]; rfl, rfl⟩
    · cases h
theorem unH_ok {op : UnOp} {x r : HV} {xv : Value} (hx : den ρ m x = some xv) (h : unH op x = some r) : ∃ z, (Op.unary op xv).run P w = .ok z w ∧ den ρ m r = some z := by
  unfold unH at h
  split at h
  · cases h
    simp only [den, Option.some.injEq] at hx
    subst hx
    exact ⟨_, by simp [Op.unary], rfl⟩
  · rename_i k a
    cases h
    obtain ⟨rfl, _⟩ := den_int hx
    exact ⟨.int k (k.wrap (0 - a)), by simp [Op.unary, Op.intArith, IV.ev], den_int' (x := .lit _) (wrap_in _ _)⟩
  · rename_i k a
    split at h
    · rename_i n hn
      cases h
      obtain ⟨rfl, _⟩ := den_int hx
      obtain ⟨h2, h3⟩ := bits_lit (P := P) (w := w) (.inr (.inr (.inl rfl))) hn
      refine ⟨.int k n, ?_, den_int' (x := .lit _) h3⟩
      have e : (bif k.signed then (-1 : Int) else k.max) = (if k.signed then -1 else k.max) := by cases k.signed <;> rfl
      rw [e] at h2
      simpa [Op.unary, IV.ev] using h2
    · cases h
  · cases h
theorem convI_ok (hR : RngOk ρ R) {k : IntKind} {x r : IV} (h : convI R k x = some r) : k.wrap (x.ev ρ) = r.ev ρ ∧ inKind k (r.ev ρ) = true := by
  unfold convI at h
  split at h
  · cases h; exact ⟨rfl, wrap_in _ _⟩
  · split at h
    · rename_i i c q hq
      cases hb : fits k q <;> rw [hb] at h <;> cases h
      have := fits_ok hR hq hb
      exact ⟨wrap_id this, this⟩
    · cases h
end
section
variable {P : Program} {Γ : Ctx} {ρ : En} {N : Nat} {S : Sl} {H : Hp} {m : Mp} {a : Act} {w : World} {o : Oper} {U : Nat → Prop} {fresh : Nat} {r : List Wr × Nat} {Q : Exit → Act → World → Prop}

theorem run_isAgg {e : TypeId} {t : Ty} (h : EOk P e t) : (isAgg e).run P w = .ok t.isAgg w := by
  obtain ⟨_, _, d, hu, hd⟩ := h
  unfold isAgg
  rw [Sem.run_bind, run_underlying hu w, ← hd]
  cases d <;> simp [TypeDesc.isRow]
theorem run_sizeOf {e : TypeId} {t : Ty} (h : EOk P e t) : (sizeOf e).run P w = .ok t.size w := by
  obtain ⟨h, _⟩ := h
  cases hq : P.info? e with
  | none => simp [hq] at h
  | some i => simp [hq] at h; simp [sizeOf, typeInfo, hq, h]
theorem run_part {e : TypeId} {t : Ty} {vs : List Value} {off : Nat} (he : EOk P e t) (hl : off + t.size ≤ vs.length) :
    (part e vs.toArray off).run P w = .ok (pk t ((vs.drop off).take t.size)) w := by
  unfold part
  rw [Sem.run_bind, run_isAgg he]
  simp only [Result.andThen_ok]
  unfold pk
  cases ha : t.isAgg with
  | true =>
    simp only [if_true, Sem.run_bind, run_sizeOf he, Result.andThen_ok, Sem.run_pure]
    congr 2
    apply Array.toList_inj.1
    simp only [Array.toList_extract, List.extract_eq_take_drop]
    rw [Nat.add_sub_cancel_left]
  | false =>
    have hsz : t.size = 1 := by cases t <;> first | rfl | cases ha
    simp only [Bool.false_eq_true, if_false]
    have hlt : off < vs.length := by omega
    rw [List.getElem?_toArray, List.getElem?_eq_getElem hlt]
    simp only [Sem.run_pure, hsz]
    rw [List.drop_eq_getElem_cons hlt]
    rfl
theorem FsOk.at_ {fs : List Field} {off : Nat} {t : Ty} (h : FsOk P fs off t) : ∀ {k : Nat} {u : Ty}, fldTy t k = some u → ∃ f, fs[k]? = some f ∧ f.offset = off + fldOff t k ∧ EOk P f.type u := by
  induction h with
  | nil => intro k u hu; simp [fldTy] at hu
  | cons h1 h2 h3 ih =>
    intro k u hu
    cases k with
    | zero => simp only [fldTy] at hu; cases hu; exact ⟨_, rfl, by simpa [fldOff] using h1, h2⟩
    | succ k =>
      simp only [fldTy] at hu
      obtain ⟨f, h4, h5, h6⟩ := ih hu
      exact ⟨f, by simpa using h4, by simp only [fldOff]; omega, h6⟩
theorem fldTy_pair {t : Ty} {k : Nat} {u : Ty} (h : fldTy t k = some u) : ∃ a b, t = .pair a b := by
  cases t with
  | pair a b => exact ⟨a, b, rfl⟩
  | _ => simp [fldTy] at h

theorem op_move (h : Rep P ρ N S H m a w) (hU : ∀ id, m id ≠ none → U id) (hd : ∀ d, o.dst = some d → d < N) {x : Operand} (ho : o.op = .move x ∨ o.op = .assign x) (hr : (opdR x fun v => dstR o v [] fresh).run S H = some r) :
    o.wp P a w (After P ρ N U fresh S H m r) Q := by
  obtain ⟨v, h1, h2⟩ := opdR_ok h hr
  exact fin_pure h hU hd (by rcases ho with ho | ho <;> simp [execOp, ho]) h1 h2
theorem op_pick (h : Rep P ρ N S H m a w) (hU : ∀ id, m id ≠ none → U id) (hd : ∀ d, o.dst = some d → d < N) {c x y : Operand} (ho : o.op = .pick c x y) (hr : (opdR c (evPick fresh o x y)).run S H = some r) :
    o.wp P a w (After P ρ N U fresh S H m r) Q := by
  obtain ⟨v, h1, h2⟩ := opdR_ok h hr
  unfold evPick at h2
  split at h2
  · rename_i t
    simp only [den, Option.some.injEq] at h1
    cases t
    · obtain ⟨v, h3, h4⟩ := opdR_ok h h2
      exact fin_pure h hU hd (by simp [execOp, ho, ← h1, asBool]) h3 h4
    · obtain ⟨v, h3, h4⟩ := opdR_ok h h2
      exact fin_pure h hU hd (by simp [execOp, ho, ← h1, asBool]) h3 h4
  · exact run_fail h2
theorem op_nilCheck (h : Rep P ρ N S H m a w) (hU : ∀ id, m id ≠ none → U id) (hd : ∀ d, o.dst = some d → d < N) {x : Operand} (ho : o.op = .nilCheck x) (hr : (opdR x (evNilCheck fresh o)).run S H = some r) :
    o.wp P a w (After P ρ N U fresh S H m r) Q := by
  obtain ⟨v, h1, h2⟩ := opdR_ok h hr
  unfold evNilCheck at h2
  split at h2
  · have h1' := h1
    simp only [den] at h1'
    split at h1' <;> (try cases h1')
    exact fin_pure h hU hd (v := a.eval x) (by simp only [Option.some.injEq] at h1'; simp [execOp, ho, ← h1']) h1 h2
  · have h1' := h1
    simp only [den] at h1'
    split at h1' <;> (try cases h1')
    exact fin_pure h hU hd (v := a.eval x) (by simp only [Option.some.injEq] at h1'; simp [execOp, ho, ← h1']) h1 h2
  · exact run_fail h2
theorem op_binOp (hT : TysOk P Γ.tys) (hR : RngOk ρ Γ.R) (h : Rep P ρ N S H m a w) (hU : ∀ id, m id ≠ none → U id) (hd : ∀ d, o.dst = some d → d < N) {op : BinOp} {t yt : TypeId} {x y : Operand} (ho : o.op = .binOp op t x y yt)
    (hr : (opdR x fun v => opdR y fun u => optR 21 (binH Γ.R (Γ.tys.get t) op v u) fun r => dstR o r [] fresh).run S H = some r) : o.wp P a w (After P ρ N U fresh S H m r) Q := by
  replace hr := opdR_ok h hr
  obtain ⟨v, h1, hr⟩ := hr
  replace hr := opdR_ok h hr
  obtain ⟨u, h2, hr⟩ := hr
  replace hr := run_optR hr
  obtain ⟨z, h3, hr⟩ := hr
  obtain ⟨q, h4, h5⟩ := binH_ok (P := P) (w := w) (xo := x) (yo := y) hR (fun ti hti => hT t ti hti) h1 h2 h3
  refine fin_pure h hU hd ?_ h5 hr
  simp only [execOp, ho]
  rw [Sem.run_bind, h4]
  rfl
theorem op_unOp (h : Rep P ρ N S H m a w) (hU : ∀ id, m id ≠ none → U id) (hd : ∀ d, o.dst = some d → d < N) {op : UnOp} {t : TypeId} {x : Operand} (ho : o.op = .unOp op t x)
    (hr : (opdR x fun v => optR 22 (unH op v) fun r => dstR o r [] fresh).run S H = some r) : o.wp P a w (After P ρ N U fresh S H m r) Q := by
  replace hr := opdR_ok h hr
  obtain ⟨v, h1, hr⟩ := hr
  replace hr := run_optR hr
  obtain ⟨z, h3, hr⟩ := hr
  obtain ⟨q, h4, h5⟩ := unH_ok (P := P) (w := w) h1 h3
  refine fin_pure h hU hd ?_ h5 hr
  simp only [execOp, ho]
  rw [Sem.run_bind, h4]
  rfl
theorem op_extract (h : Rep P ρ N S H m a w) (hU : ∀ id, m id ≠ none → U id) (hd : ∀ d, o.dst = some d → d < N) {x : Operand} {i : Nat} (ho : o.op = .extract x i) (hr : (opdR x (evExtract fresh o i)).run S H = some r) :
    o.wp P a w (After P ρ N U fresh S H m r) Q := by
  replace hr := opdR_ok h hr
  obtain ⟨v, h1, hr⟩ := hr
  unfold evExtract at hr
  split at hr
  · rename_i l
    replace hr := run_optR hr
    obtain ⟨v, h3, hr⟩ := hr
    simp only [den] at h1
    split at h1 <;> (try cases h1)
    rename_i vs hvs
    obtain ⟨z, h4, h5⟩ := denL_get hvs i v h3
    simp only [Option.some.injEq] at h1
    refine fin_pure h hU hd ?_ h5 hr
    simp [execOp, ho, ← h1, Instr.extract, h4]
  · exact run_fail hr
theorem op_makeFunc (h : Rep P ρ N S H m a w) (hU : ∀ id, m id ≠ none → U id) (hd : ∀ d, o.dst = some d → d < N) {fn : Fn} {fs cs : Array Operand} (ho : o.op = .makeFunc fn fs cs) (hr : (evFunc fresh o fs cs fn).run S H = some r) :
    o.wp P a w (After P ρ N U fresh S H m r) Q := by
  unfold evFunc at hr
  split at hr
  · replace hr := opdsR_ok h hr
    obtain ⟨vs, h1, hr⟩ := hr
    replace hr := opdsR_ok h hr
    obtain ⟨us, h2, hr⟩ := hr
    rename_i f
    have e : ∀ l : Array Operand, (List.map a.eval l.toList).toArray = l.map a.eval := fun l => by apply Array.ext'; simp
    refine fin_pure h hU hd (v := .func (.func f) (fs.map a.eval) (cs.map a.eval)) ?_ (by simp only [den, h1, h2, e]) hr
    simp [execOp, ho, Instr.makeFunc]
  · exact run_fail hr
theorem op_field (hT : TysOk P Γ.tys) (h : Rep P ρ N S H m a w) (hU : ∀ id, m id ≠ none → U id) (hd : ∀ d, o.dst = some d → d < N) {t : TypeId} {x : Operand} {f : Nat} (ho : o.op = .field t x f)
    (hr : (tyR Γ t fun ti => opdR x (evField fresh o ti f)).run S H = some r) : o.wp P a w (After P ρ N U fresh S H m r) Q := by
  replace hr := tyR_ok hT hr
  obtain ⟨ti, hti, hr⟩ := hr
  replace hr := opdR_ok h hr
  obtain ⟨v, h1, hr⟩ := hr
  unfold evField at hr
  split at hr
  · rename_i cs
    split at hr
    · rename_i u hu
      replace hr := run_bif hr
      obtain ⟨hb, hr⟩ := hr
      replace hr := run_optR hr
      obtain ⟨z, h3, hr⟩ := hr
      obtain ⟨A, B, hty⟩ := fldTy_pair hu
      have hs := hti.shape
      rw [hty] at hs
      obtain ⟨fs, hfu, hfs⟩ := hs
      rw [← hty] at hfs
      obtain ⟨fl, h4, h5, h6⟩ := hfs.at_ hu
      simp only [den] at h1
      split at h1 <;> (try cases h1)
      rename_i vs hall hvs
      simp only [Option.some.injEq] at h1
      have hle := inside_le hb
      rw [← denL_length hvs] at hle
      refine fin_pure h hU hd ?_ (den_valOf h3 (denL_cut _ _ hvs) (all_cut _ _ hall)) hr
      have hp := run_part (P := P) (w := w) (off := fl.offset) h6 (by rw [h5, Nat.zero_add]; exact hle)
      simp only [execOp, ho, Instr.field, Sem.run_bind, run_underlying hfu, Result.andThen_ok, ← h1, asAgg, Sem.run_pure]
      rw [show fs[f]? = some fl by rw [← Array.getElem?_toList]; exact h4]
      rw [h5, Nat.zero_add] at hp
      simp only [Sem.run_bind, Sem.run_pure, Result.andThen_ok, h5, Nat.zero_add, hp]
    · exact run_fail hr
  · exact run_fail hr
theorem litN_ok {v : HV} {n : Nat} {x : Value} (h : litN v = some n) (hv : den ρ m v = some x) : ∃ k, x = .int k (n : Int) := by
  unfold litN at h
  split at h
  · rename_i k i
    cases hb : decide (0 ≤ i) <;> rw [hb] at h <;> cases h
    rw [decide_eq_true_eq] at hb
    obtain ⟨rfl, _⟩ := den_int hv
    exact ⟨k, by simp only [IV.ev]; rw [Int.toNat_of_nonneg hb]⟩
  · cases h
theorem op_index (hT : TysOk P Γ.tys) (h : Rep P ρ N S H m a w) (hU : ∀ id, m id ≠ none → U id) (hd : ∀ d, o.dst = some d → d < N) {t : TypeId} {x i : Operand} (ho : o.op = .index t x i)
    (hr : (tyR Γ t fun ti => opdR x fun v => opdR i fun u => optR 45 (litN u) fun i => evIndex fresh o ti i v).run S H = some r) : o.wp P a w (After P ρ N U fresh S H m r) Q := by
  replace hr := tyR_ok hT hr
  obtain ⟨ti, hti, hr⟩ := hr
  replace hr := opdR_ok h hr
  obtain ⟨v, h1, hr⟩ := hr
  replace hr := opdR_ok h hr
  obtain ⟨u, h2, hr⟩ := hr
  replace hr := run_optR hr
  obtain ⟨n, h3, hr⟩ := hr
  obtain ⟨kd, hi⟩ := litN_ok h3 h2
  have hs := hti.shape
  unfold evIndex at hr
  split at hr
  · rename_i cs
    split at hr
    · rename_i len u hty
      replace hr := run_bif hr
      obtain ⟨hb, hr⟩ := hr
      simp only [Bool.and_eq_true] at hb
      replace hr := run_optR hr
      obtain ⟨z, h4, hr⟩ := hr
      rw [hty] at hs
      obtain ⟨hu, he⟩ := hs
      simp only [den] at h1
      split at h1 <;> (try cases h1)
      rename_i vs hall hvs
      simp only [Option.some.injEq] at h1
      have hle := inside_le hb.2
      rw [← denL_length hvs] at hle
      have hn : n < len := Nat.le_of_ble_eq_true hb.1
      refine fin_pure h hU hd ?_ (den_valOf h4 (denL_cut _ _ hvs) (all_cut _ _ hall)) hr
      have hp := run_part (P := P) (w := w) (off := n * u.size) he hle
      have c : (0 : Int) ≤ (n : Int) ∧ (n : Int) < (len : Int) := ⟨by omega, by omega⟩
      simp only [execOp, ho, ← h1, hi, Instr.index, asIntOf, Sem.run_bind, Sem.run_pure, Result.andThen_ok, run_underlying hu, if_pos c, run_sizeOf he, Int.toNat_natCast, hp]
    · exact run_fail hr
  · rename_i bs
    split at hr
    · rename_i b hb
      cases hty : isStrT ti.ty <;> rw [hty] at hr
      · exact run_fail hr
      simp only [cond_true] at hr
      have hty' : ti.ty = .str := by cases hq : ti.ty <;> rw [hq] at hty <;> first | rfl | cases hty
      rw [hty'] at hs
      simp only [TSh] at hs
      simp only [den, Option.some.injEq] at h1
      have hlt : n < bs.length := (List.getElem?_eq_some_iff.1 hb).1
      have hbv := (List.getElem?_eq_some_iff.1 hb).2
      have e : (⟨bs.toArray⟩ : ByteArray)[(n : Int).toNat]? = some b := by
        rw [Int.toNat_natCast]
        have hk2 : n < (⟨bs.toArray⟩ : ByteArray).size := by simpa [ByteArray.size] using hlt
        rw [getElem?_pos (⟨bs.toArray⟩ : ByteArray) n hk2]
        exact congrArg some (show bs.toArray[n] = b by simpa using hbv)
      have hin : inKind .u8 (b.toNat : Int) = true := by
        rw [inKind_iff, show IntKind.u8.min = 0 from rfl, show IntKind.u8.max = 255 from rfl]
        have := b.toNat_lt
        omega
      refine fin_pure h hU hd (v := .int .u8 (b.toNat : Int)) ?_ (den_int' (x := .lit _) hin) hr
      simp only [execOp, ho, ← h1, hi, Instr.index, asIntOf, Sem.run_bind, Sem.run_pure, Result.andThen_ok, run_underlying hs, if_pos (show (0 : Int) ≤ (n : Int) by omega), e]
    · exact run_fail hr
  · exact run_fail hr
end
end Go.Proofs.YtehbbcdhahnkgaaGreat.Hm
