/- The ghost machine and the machine: literals, conversions, closures. -/
import Derived.Test.YtehbbcdhahnkgaaGreatGmOpI
set_option linter.unusedVariables false
set_option linter.unusedSimpArgs false
namespace Go.Proofs.YtehbbcdhahnkgaaGreat
open Go
section
variable {P : Program} {Γ : Ctx} {E : Env} {N : Nat} {U : Nat → Prop} {ob : Nat → Value} {Z : Nat → Prop} {s : GS} {a : Act} {w : World} {ws : List Wr} {o : Oper} {fresh : Nat} {Q : Exit → Act → World → Prop}

theorem fill_step {place : Nat → Option (Nat × Nat)} {cells : Array Value} {i off : Nat} {v : Value} {rest : List (Nat × Value)} (hp : place i = some (off, v.cells.size)) (hl : off + v.cells.size ≤ cells.size) :
  Instr.fill place cells ((i, v) :: rest) = Instr.fill place (repl cells.toList v.cells.toList off).toArray rest := by
 obtain ⟨g1, g2⟩ := Great.foldl_set off v.cells.toList 0 cells
 have e : (v.cells.toList.zipIdx 0).foldl (fun cs (x : Value × Nat) => cs.setIfInBounds (off + x.2) x.1) cells = (repl cells.toList v.cells.toList off).toArray := by
  apply Array.toList_inj.1
  apply List.ext_getElem?
  intro k
  rw [Array.getElem?_toList, g2 k]
  unfold repl
  simp only [Nat.add_zero, Array.length_toList, List.getElem?_append, List.length_append, List.length_take, List.getElem?_take, List.getElem?_drop]
  have hm : min off cells.size = off := by omega
  simp only [hm]
  by_cases c1 : k < off
  ·rw [if_neg (by omega), if_pos (by omega), if_pos c1, if_pos c1]; simp
  ·by_cases c2 : k < off + v.cells.size
   ·rw [if_pos (by omega), if_pos c2, if_neg c1]
   ·rw [if_neg (by omega), if_neg c2, show off + v.cells.size + (k - (off + v.cells.size)) = k by omega]; simp
 conv => lhs; unfold Instr.fill
 simp only [hp]
 rw [if_neg (by simp; omega)]
 congr 1
 rw [← e, ← Array.foldl_toList, Array.toList_zipIdx]

theorem partsR_ok (h : RepAt E N U ob Z s a w) (hg : E.globs = Γ.globs) : ∀ {ps : List (Nat × Operand)} {k : List (Nat × SV) → RT}, (partsR Γ ps k).run s = some ws →
  ∃ vs, All2 (fun (p : Nat × Operand) (q : Nat × SV) => q.1 = p.1 ∧ SR w Z ob q.2 (a.eval p.2) ∧ q.2.ids U) ps vs ∧ (k vs).run s = some ws
 | [], k, hr => ⟨[], trivial, hr⟩
 | p :: l, k, hr => by
  simp only [partsR] at hr
  replace hr := svR_ok h hg hr
  obtain ⟨v, h1, h2, hr⟩ := hr
  obtain ⟨vs, h3, hr⟩ := partsR_ok h hg hr
  exact ⟨(p.1, v) :: vs, ⟨⟨rfl, h1, h2⟩, h3⟩, hr⟩

theorem pk_size {Z : Nat → Prop} {t : Ty} {x : t.den} {vs : List Value} (h : DR w Z t x vs) : (pk t vs).cells.size = t.size := by rw [← Array.length_toList, pk_cells h, h.len]

def Plc (t : Ty) (place : Nat → Option (Nat × Nat)) : Prop :=
 match t with
 | .arr _ u => ∀ i, place i = some (i * u.size, u.size)
 | t => ∀ k u, fldTy t k = some u → place k = some (fldOff t k, u.size)

theorem buildR_ok {t : Ty} {place : Nat → Option (Nat × Nat)} (hp : Plc t place) (hz0 : ∀ v u, SR w Z ob v u → True) : ∀ {l : List (Nat × SV)} {ps : List (Nat × Operand)} {x : t.den} {ws0 : List Wr} {Z1 : Nat → Prop} {vs : List Value} {k : t.den → List Wr → RT},
  All2 (fun (p : Nat × Operand) (q : Nat × SV) => q.1 = p.1 ∧ SR w Z ob q.2 (a.eval p.2) ∧ q.2.ids U) ps l → RepAt E N U ob Z1 (s.app ws0) a w → (∀ b, Z b → Z1 b) → Colder s (s.app ws0) → DR w Z1 t x vs → (buildR t x l ws0 k).run s = some ws →
  ∃ x' ws1 Z' vs', (k x' ws1).run s = some ws ∧ RepAt E N U ob Z' (s.app ws1) a w ∧ DR w Z' t x' vs' ∧ Instr.fill place vs.toArray (ps.map fun p => (p.1, a.eval p.2)) = some vs'.toArray ∧ ∀ f u, fldTy t f = some u → (∀ p ∈ l, p.1 ≠ f) → ∀ c, fldOff t f ≤ c → c < fldOff t f + u.size → vs'[c]? = vs[c]?
 | [], [], x, ws0, Z1, vs, k, _, h, _, _, hd, hr => ⟨x, ws0, Z1, vs, by simpa [buildR] using hr, h, hd, rfl, fun _ _ _ _ _ _ _ => rfl⟩
 | (i, v) :: l, (j, y) :: ps, x, ws0, Z1, vs, k, ⟨⟨e, h1, h2⟩, hall⟩, h, hz, hc, hd, hr => by
  simp only at e; subst e
  have h1' : SR w Z1 ob v (a.eval y) := h1.mono (Same.refl _ _) hz (fun _ _ => rfl) h2
  unfold buildR at hr
  split at hr
  ·rename_i n u x0 k0
   replace hr := run_cond hr
   obtain ⟨hi, hr⟩ := hr
   have hi' : i < n := Nat.lt_of_lt_of_le (Nat.lt_succ_self i) (Nat.le_of_ble_eq_true hi)
   replace hr := dataR_ok h hc h1' h2 hr
   obtain ⟨y', ws1, Z', hr, ⟨us, h3, h4⟩, h5, h6, h7, _⟩ := hr
   obtain ⟨hl, uss, rfl, ha⟩ := hd.mono (Same.refl _ _) h6
   have hset := set_flatten ha.lenD (i := i) (by rw [← ha.length]; omega) h3.len
   rw [← app_append] at h5 h7
   obtain ⟨x', ws2, Z2, vs', r1, r2, r3, r4, r5⟩ := buildR_ok hp hz0 hall h5 (fun b hb => h6 b (hz b hb)) h7 (x := x0.set i y') (vs := (uss.set i us).flatten) ⟨by simpa using hl, _, rfl, ha.set h3 i⟩ hr
   refine ⟨x', ws2, Z2, vs', r1, r2, r3, ?_, fun f u' hf => by simp [fldTy] at hf⟩
   simp only [List.map_cons]
   rw [fill_step (off := i * u.size) (by rw [h4, pk_size h3]; exact hp i) ?_]
   ·rw [h4, pk_cells h3, List.toList_toArray, ← hset]; exact r4
   ·rw [h4, pk_size h3, List.size_toArray, ha.flatD, show List.length x0 = n from hl]
    calc i * u.size + u.size = (i + 1) * u.size := by rw [Nat.add_mul, Nat.one_mul]
     _ ≤ n * u.size := Nat.mul_le_mul_right _ hi'
  ·rename_i A B x0 k0
   split at hr
   ·rename_i u hu
    replace hr := dataR_ok h hc h1' h2 hr
    obtain ⟨y', ws1, Z', hr, ⟨us, h3, h4⟩, h5, h6, h7, _⟩ := hr
    split at hr
    ·rename_i z hset
     have hd' := hd.mono (Same.refl _ _) h6
     obtain ⟨q1, q2, q3⟩ := setFld_DR (d := ⟨u, y'⟩) hd' hset h3
     rw [← app_append] at h5 h7
     obtain ⟨x', ws2, Z2, vs', r1, r2, r3, r4, r5⟩ := buildR_ok hp hz0 hall h5 (fun b hb => h6 b (hz b hb)) h7 q1 hr
     refine ⟨x', ws2, Z2, vs', r1, r2, r3, ?_, fun f u' hf hne c hc1 hc2 => ?_⟩
     case refine_2 =>
      rw [r5 f u' hf (fun p hp => hne p (by simp [hp])) c hc1 hc2]
      have hl3 := h3.len
      have hap := fld_apart hu hf (hne (i, v) (by simp))
      rw [repl_get q3]
      rcases hap with ha | ha
      ·rw [if_neg (by omega), if_neg (by omega)]
      ·rw [if_pos (by omega)]
     simp only [List.map_cons]
     rw [fill_step (off := fldOff (.pair A B) i) (by rw [h4, pk_size h3]; exact hp i u hu) (by rw [h4, pk_size h3, List.size_toArray, hd'.len]; exact fldTy_off hu)]
     rw [h4, pk_cells h3, List.toList_toArray]; exact r4
    ·exact run_fail hr
   ·exact run_fail hr
  ·exact run_fail hr

theorem FsOk.places : ∀ {fs : List Field} {off : Nat} {t : Ty}, FsOk P fs off t → ∃ places, fs.mapM (fun f => (P.info? f.type).map fun i => (f.offset, i.size)) = some places ∧ ∀ k u, fldTy t k = some u → places[k]? = some (off + fldOff t k, u.size) := by
 intro fs off t h
 induction h with
 | nil => exact ⟨[], rfl, fun k u hu => by simp [fldTy] at hu⟩
 | @cons f fs off a b h1 h2 h3 ih =>
  obtain ⟨places, q1, q2⟩ := ih
  have hs : (P.info? f.type).map (fun i => (f.offset, i.size)) = some (f.offset, a.size) := by
   have := h2.1
   cases hq : P.info? f.type with
   | none => simp [hq] at this
   | some i => simp [hq] at this; simp [this]
  refine ⟨(f.offset, a.size) :: places, by rw [List.mapM_cons, hs, q1]; rfl, fun k u hu => ?_⟩
  cases k with
  | zero => simp only [fldTy] at hu; cases hu; simp [fldOff, h1, view_size]
  | succ k => simp only [fldTy] at hu; simp only [List.getElem?_cons_succ, q2 k u hu, fldOff]; congr 2; omega

theorem op_build (hT : TysOk P Γ) (hI : IfOk P Γ.ifs) (h : RepAt E Γ.N U ob Z s a w) (hg : E.globs = Γ.globs) {t : TypeId} {ps : Array (Nat × Operand)} (ho : o.op = .build t ps) (hr : (evalOp Γ fresh o).run s = some ws) :
  o.wp P a w (After E Γ.N U fresh s ws) Q := by
 simp only [evalOp, ho] at hr
 split at hr
 ·rename_i he
  obtain ⟨hb, hr⟩ := run_chk hr
  obtain rfl : ps = #[] := Array.eq_empty_of_size_eq_zero (Nat.eq_of_beq_eq_true hb)
  exact fin_pure h (v := .agg #[]) (by simp [execOp, ho, hI.build he]) (vr (v := .data .unit ()) ⟨[], rfl, rfl⟩) trivial hr
 replace hr := tyR_ok hr
 obtain ⟨ti, hl, hr⟩ := hr
 have hti := hT _ _ hl
 have hsh := hti.shape
 replace hr := run_chk hr
 obtain ⟨hag, hr⟩ := hr
 replace hr := partsR_ok h hg hr
 obtain ⟨vs, hall, hr⟩ := hr
 obtain ⟨it, hi, hz, _, _⟩ := hti.parts
 have hzl : (pk ti.ty (zc ti.ty)).cells.toList = zc ti.ty := pk_cells (DR.zero (w := w) (Z := Z) ti.ty)
 have hzc : (pk ti.ty (zc ti.ty)).cells = (zc ti.ty).toArray := by apply Array.toList_inj.1; rw [hzl]
 have hps : (ps.map fun (i, x) => (i, a.eval x)).toList = ps.toList.map fun p => (p.1, a.eval p.2) := by rw [Array.toList_map]
 have fin : ∀ place, Plc ti.ty place → ti.ty.isAgg = true → (∀ cells, Instr.fill place (zc ti.ty).toArray (ps.toList.map fun p => (p.1, a.eval p.2)) = some cells → P.built t (ps.map fun (i, x) => (i, a.eval x)).toList = some cells) → o.wp P a w (After E Γ.N U fresh s ws) Q := by
  intro place hp hagg hb
  obtain ⟨x', ws1, Z', vs', hr, r2, r3, r4, r5⟩ := buildR_ok hp (fun _ _ _ => trivial) hall (ws0 := []) h (fun _ h => h) (Colder.refl s) (DR.zero ti.ty) hr
  have hrun := run_build (P := P) w t (ps.map fun (i, x) => (i, a.eval x)) vs'.toArray (hb _ r4)
  have hbs : VR w Z' ob (.sv (bldSV ti (vs.map (·.1)) x')) (.agg vs'.toArray) ∧ (GV.sv (bldSV ti (vs.map (·.1)) x')).ids U := by
   unfold bldSV
   split
   ·rename_i f hof
    obtain ⟨kt, hkt⟩ := ownF_fld hof
    cases hb : (vs.map (·.1)).any (Nat.beq f ·) with
    | true => exact ⟨⟨vs', r3, (pk_agg hagg).symm⟩, trivial⟩
    | false =>
     refine ⟨⟨vs', r3, (pk_agg hagg).symm, ?_⟩, trivial⟩
     rw [r5 f _ hkt (fun p hp e => ?_) _ (Nat.le_refl _) (by simp [Ty.size])]
     ·exact zc_fld hkt
     ·have : (vs.map (·.1)).any (Nat.beq f ·) = true := List.any_eq_true.2 ⟨p.1, List.mem_map.2 ⟨p, hp, rfl⟩, by rw [e]; exact nbeq_self f⟩
      rw [hb] at this; cases this
   ·exact ⟨⟨vs', r3, (pk_agg hagg).symm⟩, trivial⟩
  refine fin_val (v := .agg vs'.toArray) ?_ r2 hbs.1 hbs.2 (fun _ h => .inl h) hr
  simp only [execOp, ho, Sem.run_bind, hrun, Result.andThen_ok, Sem.run_pure]
 cases hty : ti.ty with
 | arr n u =>
  rw [hty] at hsh
  obtain ⟨hu, he, _⟩ := hsh
  cases hq : P.info? ti.el with
  | none => rw [hq] at he; simp at he
  | some ie =>
   rw [hq] at he; simp at he
   refine fin (fun i => some (i * u.size, u.size)) (by rw [hty]; exact fun i => rfl) (by rw [hty]; rfl) fun cells hc => ?_
   rw [hps]
   simp only [Program.built, hi, hu, hz, hq, he, hzc]
   exact hc
 | pair A B =>
  rw [hty] at hsh
  obtain ⟨fs, hu, hfs⟩ := hsh
  obtain ⟨places, q1, q2⟩ := hfs.places
  refine fin (places.toArray[·]?) (by rw [hty]; exact fun k u hk => by simpa using q2 k u hk) (by rw [hty]; rfl) fun cells hc => ?_
  rw [hps]
  simp only [Program.built, hi, hu, hz, q1, hzc]
  exact hc
 | unit => rw [hty] at hsh; exact hsh.elim
 | _ => rw [hty] at hag; simp [Ty.isAgg] at hag

theorem op_buildSlice (hT : TysOk P Γ) (h : RepAt E Γ.N U ob Z s a w) (hg : E.globs = Γ.globs) (hf : ∀ j, fresh ≤ j → j < fresh + 4 → ¬ U j) {t : TypeId} {n : Nat} {ps : Array (Nat × Operand)} (ho : o.op = .buildSlice t n ps) (hr : (evalOp Γ fresh o).run s = some ws) :
  o.wp P a w (After E Γ.N U fresh s ws) Q := by
 simp only [evalOp, ho] at hr
 replace hr := tyR_ok hr
 obtain ⟨ti, hl, hr⟩ := hr
 have hsh := (hT _ _ hl).shape
 split at hr
 ·rename_i u hu
  rw [hu] at hsh
  replace hr := tyR_ok hr
  obtain ⟨te, hle, hr⟩ := hr
  have hte := hT _ _ hle
  replace hr := run_cond hr
  obtain ⟨hc, hr⟩ := hr
  simp only [Bool.and_eq_true] at hc
  have hue := Ty.same_eq hc.1
  have h24 := Nat.le_of_ble_eq_true hc.2
  subst hue
  replace hr := partsR_ok h hg hr
  obtain ⟨vs, hall, hr⟩ := hr
  obtain ⟨ie, hi, hz, hs, _⟩ := hte.parts
  have hzl : (pk te.ty (zc te.ty)).cells.toList = zc te.ty := pk_cells (DR.zero (w := w) (Z := Z) te.ty)
  have hzs : (pk te.ty (zc te.ty)).cells.size = te.ty.size := by rw [← Array.length_toList, hzl, (DR.zero (w := w) (Z := Z) te.ty).len]
  obtain ⟨xs, ws1, Z', vs', hr, r2, r3, r4, _⟩ := buildR_ok (t := .arr n te.ty) (place := fun i => some (i * te.ty.size, te.ty.size)) (fun i => rfl) (fun _ _ _ => trivial) hall (ws0 := []) h (fun _ h => h) (Colder.refl s) (vs := (List.replicate n (zc te.ty)).flatten) ⟨by simp, _, rfl, All2.replicate (DR.zero _) n⟩ hr
  obtain ⟨hln, uss, rfl, ha⟩ := r3
  have hln' : List.length xs = n := hln
  have hf0 := hf fresh (Nat.le_refl _) (by omega)
  have hps : (ps.map fun (i, x) => (i, a.eval x)).toList = ps.toList.map fun p => (p.1, a.eval p.2) := by rw [Array.toList_map]
  have hcells : (Array.range (n * ie.size)).map ((pk te.ty (zc te.ty)).cells[· % (pk te.ty (zc te.ty)).cells.size]!) = (List.replicate n (zc te.ty)).flatten.toArray := by
   apply Array.toList_inj.1
   rw [hs, ← hzs, modCells, hzl]
  have hrow := r2.newRow hf0 (e := ti.el) (t := te.ty) (xs := xs) (uss := uss) (cs := uss.flatten.toArray) (cap := n) ha (by rw [List.size_toArray, ha.flatD, hln']) (by omega) (by have := hte.pos; have : n * 1 ≤ n * te.ty.size := Nat.mul_le_mul_left _ this; unfold maxLen; omega)
   (by rw [List.toList_toArray, List.take_of_length_le (by rw [ha.flatD]; exact Nat.le_refl _)])
  rw [← app_snoc, hln'] at hrow
  refine fin_val (v := .slice (some ⟨w.heap.size, 0, none⟩) n n) ?_ hrow (vr (v := .row fresh) (by simp [SR])) (.inr rfl) fresh_in hr
  rcases Nat.eq_zero_or_pos n with h0 | h0
  ·subst h0
   have hxs : xs = [] := List.eq_nil_of_length_eq_zero hln'
   subst hxs
   have hus : uss = [] := by cases uss with
    | nil => rfl
    | cons => exact ha.elim
   subst hus
   have r5 : Instr.fill (fun i => some (i * te.ty.size, te.ty.size)) #[] (ps.toList.map fun p => (p.1, a.eval p.2)) = some #[] := r4
   have hgt : ¬ (0 * te.ty.size > 2 ^ 24) := by simp
   have hpar : (ps.map fun (i, x) => (i, a.eval x)).toList = ps.toList.map fun p => (p.1, a.eval p.2) := hps
   simp only [execOp, ho, Instr.buildSlice, Sem.run_bind, run_underlying hsh.1, Result.andThen_ok, run_sizeOf hte.eok, Nat.zero_mul, if_true, Sem.run_pure, hpar]
   simp [r5, newRow, show (Array.range 0 : Array Nat) = #[] from rfl]
  ·have hsz : ¬ (n * ie.size > 2 ^ 24) := by rw [hs]; omega
   have hsz0 : ¬ (n * ie.size = 0) := by rw [hs]; exact Nat.mul_ne_zero (by omega) (by have := hte.pos; omega)
   have hrun := run_buildSlice (P := P) w t ti.el n (ps.map fun (i, x) => (i, a.eval x)) uss.flatten.toArray ie _ hsh.1 hi hz hsz hsz0 (by rw [hcells, hps, hs]; exact r4)
   simp only [execOp, ho, Sem.run_bind, hrun, Result.andThen_ok, Sem.run_pure]
 ·exact run_fail hr

theorem svsR_ok (h : RepAt E N U ob Z s a w) (hg : E.globs = Γ.globs) : ∀ {l : List Operand} {k : List SV → RT}, (svsR Γ l k).run s = some ws → ∃ vs, All2 (SR w Z ob) vs (l.map a.eval) ∧ (∀ v ∈ vs, v.ids U) ∧ (k vs).run s = some ws
 | [], k, hr => ⟨[], trivial, by simp, hr⟩
 | x :: l, k, hr => by
  simp only [svsR] at hr
  replace hr := svR_ok h hg hr
  obtain ⟨v, h1, h2, hr⟩ := hr
  obtain ⟨vs, h3, h4, hr⟩ := svsR_ok h hg hr
  exact ⟨v :: vs, ⟨h1, h3⟩, fun u hu => (List.mem_cons.1 hu).elim (fun e => e ▸ h2) (h4 u), hr⟩
theorem op_makeFunc (h : RepAt E Γ.N U ob Z s a w) (hg : E.globs = Γ.globs) {fn : Fn} {first cs : Array Operand} (ho : o.op = .makeFunc fn first cs) (hr : (evalOp Γ fresh o).run s = some ws) :
  o.wp P a w (After E Γ.N U fresh s ws) Q := by
 simp only [evalOp, ho] at hr
 split at hr
 ·rename_i f
  replace hr := run_cond hr
  obtain ⟨h0, hr⟩ := hr
  have hf : first = #[] := Array.eq_empty_of_size_eq_zero (Nat.eq_of_beq_eq_true h0)
  subst hf
  replace hr := svsR_ok h hg hr
  obtain ⟨vs, h1, h2, hr⟩ := hr
  refine fin_pure h (v := .func (.func f) #[] (cs.map a.eval)) ?_ (show VR w Z ob (.clo f vs) _ from ⟨cs.toList.map a.eval, by congr 1; apply Array.toList_inj.1; simp, h1⟩) h2 hr
  simp [execOp, ho, Instr.makeFunc]
 ·exact run_fail hr
end
end Go.Proofs.YtehbbcdhahnkgaaGreat
