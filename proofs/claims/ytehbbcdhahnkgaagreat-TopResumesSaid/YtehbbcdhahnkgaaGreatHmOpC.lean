/- The heap machine and the machine: literals, cuts, lengths, conversions. -/
import Derived.Test.YtehbbcdhahnkgaaGreatHmOpB
import Derived.Lib.ConvBytes
import Derived.Great.BuildSlice
import Derived.Laws.MakeOwn
import Derived.Laws.IdiomStrings
set_option linter.unusedVariables false
set_option linter.unusedSimpArgs false
namespace Go.Proofs.YtehbbcdhahnkgaaGreat.Hm
open Go
section
variable {P : Program} {Γ : Ctx} {ρ : En} {N : Nat} {S : Sl} {H : Hp} {m : Mp} {a : Act} {w : World} {o : Oper} {U : Nat → Prop} {fresh : Nat} {r : List Wr × Nat} {Q : Exit → Act → World → Prop}

theorem putV_get {vs us : List Value} {o : Nat} (h : o + us.length ≤ vs.length) (j : Nat) : (putV vs o us)[j]? = if j < o then vs[j]? else if j < o + us.length then us[j - o]? else vs[j]? := by
  unfold putV
  simp only [List.getElem?_append, List.length_append, List.length_take, List.getElem?_take, List.getElem?_drop]
  have hm : min o vs.length = o := by omega
  simp only [hm]
  by_cases c1 : j < o
  · simp [c1, show j < o + us.length by omega]
  · by_cases c2 : j < o + us.length
    · simp [c1, c2]
    · simp [c1, c2, show o + us.length + (j - (o + us.length)) = j by omega]
theorem fill_step {place : Nat → Option (Nat × Nat)} {xs : List Value} {i off : Nat} {v : Value} {rest : List (Nat × Value)} (hp : place i = some (off, v.cells.size)) (hl : off + v.cells.size ≤ xs.length) :
    Instr.fill place xs.toArray ((i, v) :: rest) = Instr.fill place (putV xs off v.cells.toList).toArray rest := by
  obtain ⟨g1, g2⟩ := Great.foldl_set off v.cells.toList 0 xs.toArray
  have e : (v.cells.toList.zipIdx 0).foldl (fun cs (x : Value × Nat) => cs.setIfInBounds (off + x.2) x.1) xs.toArray = (putV xs off v.cells.toList).toArray := by
    apply Array.toList_inj.1
    apply List.ext_getElem?
    intro k
    rw [Array.getElem?_toList, g2 k]
    rw [putV_get (by rw [Array.length_toList]; exact hl)]
    simp only [Nat.add_zero, Array.length_toList, List.size_toArray]
    by_cases c1 : k < off
    · rw [if_neg (by omega), if_pos c1]; simp
    · by_cases c2 : k < off + v.cells.size
      · rw [if_pos (by omega), if_neg c1, if_pos c2]
      · rw [if_neg (by omega), if_neg c1, if_neg c2]; simp
  conv => lhs; unfold Instr.fill
  simp only [hp]
  rw [if_neg (by simp; omega)]
  congr 1
  rw [← e, ← Array.foldl_toList, Array.toList_zipIdx]
theorem partsR_ok (h : Rep P ρ N S H m a w) : ∀ {ps : List (Nat × Operand)} {k : List (Nat × HV) → RT}, (partsR ps k).run S H = some r →
    ∃ vs, All2 (fun (p : Nat × Operand) (q : Nat × HV) => q.1 = p.1 ∧ den ρ m q.2 = some (a.eval p.2)) ps vs ∧ (k vs).run S H = some r
  | [], k, hr => ⟨[], .nil, hr⟩
  | p :: l, k, hr => by
    simp only [partsR] at hr
    replace hr := opdR_ok h hr
    obtain ⟨v, h1, hr⟩ := hr
    obtain ⟨vs, h3, hr⟩ := partsR_ok h hr
    exact ⟨(p.1, v) :: vs, .cons ⟨rfl, h1⟩ h3, hr⟩
theorem fldTy_off : ∀ {t : Ty} {k : Nat} {u : Ty}, fldTy t k = some u → fldOff t k + u.size ≤ t.size
  | .pair a b, 0, u, h => by simp only [fldTy] at h; cases h; simp only [fldOff, Ty.size]; omega
  | .pair a b, k + 1, u, h => by
    simp only [fldTy] at h
    have := fldTy_off h
    simp only [fldOff, Ty.size]; omega
  | .bool, _, _, h | .int _, _, _, h | .str, _, _, h | .sl, _, _, h | .ptr, _, _, h | .fn, _, _, h | .mp, _, _, h | .unit, _, _, h | .arr _ _, _, _, h => by simp [fldTy] at h
theorem fill_struct {t : Ty} {place : Nat → Option (Nat × Nat)} (hp : ∀ k u, fldTy t k = some u → place k = some (fldOff t k, u.size)) : ∀ {ps : List (Nat × Operand)} {vs : List (Nat × HV)} {cs cs' : List HV} {xs : List Value},
    All2 (fun (p : Nat × Operand) (q : Nat × HV) => q.1 = p.1 ∧ den ρ m q.2 = some (a.eval p.2)) ps vs → fillStruct t vs cs = some cs' → denL ρ m cs = some xs → cs.all HV.one = true → cs.length = t.size → (∀ k u, fldTy t k = some u → 0 < u.size) →
    ∃ xs', Instr.fill place xs.toArray (ps.map fun p => (p.1, a.eval p.2)) = some xs'.toArray ∧ denL ρ m cs' = some xs' ∧ cs'.all HV.one = true ∧ cs'.length = t.size := by
  intro ps
  induction ps with
  | nil => intro vs cs cs' xs h hf hd h1 hl _; cases h; simp only [fillStruct] at hf; cases hf; exact ⟨xs, rfl, hd, h1, hl⟩
  | cons p ps ih =>
    intro vs cs cs' xs h hf hd h1 hl hpos
    cases h with
    | @cons _ q _ vs' hq hrest =>
      obtain ⟨i, v⟩ := q
      obtain ⟨hi, hv⟩ := hq
      simp only at hi hv
      simp only [fillStruct] at hf
      split at hf
      · rename_i u hu
        cases hb : Nat.beq v.cells.length u.size <;> rw [hb] at hf <;> (try cases hf)
        have hb := Nat.eq_of_beq_eq_true hb
        have hup := hpos _ _ hu
        obtain ⟨c1, c2⟩ := den_cells hv (by omega)
        have hoff := fldTy_off hu
        have hvl := denL_length c1
        have hxl := denL_length hd
        obtain ⟨xs', r1, r2, r3, r4⟩ := ih hrest hf (denL_put hd c1 (by omega)) (all_putAt h1 c2 (by omega)) (by rw [put_length (by omega), hl]) hpos
        refine ⟨xs', ?_, r2, r3, r4⟩
        rw [Array.length_toList] at hvl
        rw [List.map_cons, fill_step (off := fldOff t i) (by rw [hvl, hb, ← hi]; exact hp i u hu) (by rw [hvl]; omega)]
        exact r1
      · cases hf
theorem fill_arr {n sz : Nat} (hsz : 0 < sz) : ∀ {ps : List (Nat × Operand)} {vs : List (Nat × HV)} {cs cs' : List HV} {xs : List Value},
    All2 (fun (p : Nat × Operand) (q : Nat × HV) => q.1 = p.1 ∧ den ρ m q.2 = some (a.eval p.2)) ps vs → fillArr n sz vs cs = some cs' → denL ρ m cs = some xs → cs.all HV.one = true → cs.length = n * sz →
    ∃ xs', Instr.fill (fun i => some (i * sz, sz)) xs.toArray (ps.map fun p => (p.1, a.eval p.2)) = some xs'.toArray ∧ denL ρ m cs' = some xs' ∧ cs'.all HV.one = true ∧ cs'.length = n * sz := by
  intro ps
  induction ps with
  | nil => intro vs cs cs' xs h hf hd h1 hl; cases h; simp only [fillArr] at hf; cases hf; exact ⟨xs, rfl, hd, h1, hl⟩
  | cons p ps ih =>
    intro vs cs cs' xs h hf hd h1 hl
    cases h with
    | @cons _ q _ vs' hq hrest =>
      obtain ⟨i, v⟩ := q
      obtain ⟨hi, hv⟩ := hq
      simp only at hi hv
      simp only [fillArr] at hf
      cases hb : (Nat.blt i n && Nat.beq v.cells.length sz) <;> rw [hb] at hf <;> (try cases hf)
      simp only [Bool.and_eq_true] at hb
      have hin : i < n := Nat.le_of_ble_eq_true hb.1
      have hb := Nat.eq_of_beq_eq_true hb.2
      obtain ⟨c1, c2⟩ := den_cells hv (by omega)
      have hoff : i * sz + sz ≤ n * sz := by
        calc i * sz + sz = (i + 1) * sz := by rw [Nat.add_mul, Nat.one_mul]
          _ ≤ n * sz := Nat.mul_le_mul_right _ hin
      have hvl := denL_length c1
      have hxl := denL_length hd
      obtain ⟨xs', r1, r2, r3, r4⟩ := ih hrest hf (denL_put hd c1 (by omega)) (all_putAt h1 c2 (by omega)) (by rw [put_length (by omega), hl])
      refine ⟨xs', ?_, r2, r3, r4⟩
      rw [Array.length_toList] at hvl
      rw [List.map_cons, fill_step (off := i * sz) (by rw [hvl, hb, ← hi]) (by rw [hvl]; omega)]
      exact r1
theorem FsOk.places : ∀ {fs : List Field} {off : Nat} {t : Ty}, FsOk P fs off t → ∃ places, fs.mapM (fun f => (P.info? f.type).map fun i => (f.offset, i.size)) = some places ∧ (∀ k u, fldTy t k = some u → places[k]? = some (off + fldOff t k, u.size)) ∧ ∀ k u, fldTy t k = some u → 0 < u.size := by
  intro fs off t h
  induction h with
  | nil => exact ⟨[], rfl, fun k u hu => by simp [fldTy] at hu, fun k u hu => by simp [fldTy] at hu⟩
  | @cons f fs off a b h1 h2 h3 ih =>
    obtain ⟨places, q1, q2, q3⟩ := ih
    have hs : (P.info? f.type).map (fun i => (f.offset, i.size)) = some (f.offset, a.size) := by
      have := h2.1
      cases hq : P.info? f.type with
      | none => simp [hq] at this
      | some i => simp [hq] at this; simp [this]
    refine ⟨(f.offset, a.size) :: places, by rw [List.mapM_cons, hs, q1]; rfl, fun k u hu => ?_, fun k u hu => ?_⟩
    · cases k with
      | zero => simp only [fldTy] at hu; cases hu; simp [fldOff, h1]
      | succ k => simp only [fldTy] at hu; simp only [List.getElem?_cons_succ, q2 k u hu, fldOff]; congr 2; omega
    · cases k with
      | zero => simp only [fldTy] at hu; cases hu; exact h2.2.1
      | succ k => exact q3 k u hu
theorem zc_cells (t : Ty) (ha : t.isAgg = true) : (pk t (zc t)).cells = (zc t).toArray := by unfold pk; rw [if_pos ha]; rfl
theorem op_build (hT : TysOk P Γ.tys) (h : Rep P ρ N S H m a w) (hU : ∀ id, m id ≠ none → U id) (hd : ∀ d, o.dst = some d → d < N) {t : TypeId} {ps : Array (Nat × Operand)} (ho : o.op = .build t ps)
    (hr : (tyR Γ t fun ti => partsR ps.toList fun vs => evBuild fresh o vs ti.ty).run S H = some r) : o.wp P a w (After P ρ N U fresh S H m r) Q := by
  replace hr := tyR_ok hT hr
  obtain ⟨ti, hti, hr⟩ := hr
  have hsh := hti.shape
  replace hr := partsR_ok h hr
  obtain ⟨vs, hall, hr⟩ := hr
  obtain ⟨it, hi, hz, _, _⟩ := hti.parts
  have hps : (ps.map fun (i, x) => (i, a.eval x)).toList = ps.toList.map fun p => (p.1, a.eval p.2) := by rw [Array.toList_map]
  unfold evBuild at hr
  split at hr
  · rename_i n u hty
    replace hr := run_optR hr
    obtain ⟨cs, hcs, hr⟩ := hr
    rw [hty] at hsh
    obtain ⟨hu, he⟩ := hsh
    obtain ⟨xs', r1, r2, r3, r4⟩ := fill_arr (ρ := ρ) (m := m) (a := a) he.2.1 hall hcs (den_zero (.arr n u)) (zero_one (.arr n u)) (zero_length (.arr n u))
    have hsz := he.1
    cases hq : P.info? ti.el with
    | none => rw [hq] at hsz; simp at hsz
    | some ie =>
      rw [hq] at hsz; simp at hsz
      have hb : P.built t (ps.map fun (i, x) => (i, a.eval x)).toList = some xs'.toArray := by
        rw [hps]
        rw [hty] at hz
        simp only [Program.built, hi, hu, hz, hq, hsz, zc_cells (.arr n u) rfl]
        exact r1
      have hrun := run_build (P := P) w t (ps.map fun (i, x) => (i, a.eval x)) xs'.toArray hb
      refine fin_pure h hU hd (v := .agg xs'.toArray) ?_ (by simp only [den, r3, r2]) hr
      simp only [execOp, ho, Sem.run_bind, hrun, Result.andThen_ok, Sem.run_pure]
  · rename_i A B hty
    replace hr := run_optR hr
    obtain ⟨cs, hcs, hr⟩ := hr
    rw [hty] at hsh
    obtain ⟨fs, hu, hfs⟩ := hsh
    obtain ⟨places, q1, q2, q3⟩ := hfs.places
    obtain ⟨xs', r1, r2, r3, r4⟩ := fill_struct (ρ := ρ) (m := m) (a := a) (place := (places.toArray[·]?)) (fun k u hk => by simpa using q2 k u hk) hall hcs (den_zero (.pair A B)) (zero_one (.pair A B)) (zero_length (.pair A B)) q3
    have hb : P.built t (ps.map fun (i, x) => (i, a.eval x)).toList = some xs'.toArray := by
      rw [hps]
      rw [hty] at hz
      simp only [Program.built, hi, hu, hz, q1, zc_cells (.pair A B) rfl]
      exact r1
    have hrun := run_build (P := P) w t (ps.map fun (i, x) => (i, a.eval x)) xs'.toArray hb
    refine fin_pure h hU hd (v := .agg xs'.toArray) ?_ (by simp only [den, r3, r2]) hr
    simp only [execOp, ho, Sem.run_bind, hrun, Result.andThen_ok, Sem.run_pure]
  · exact run_fail hr
theorem is_sl {t : Ty} (h : isSl t = true) : t = .sl := by cases t <;> first | rfl | cases h
theorem is_str {t : Ty} (h : isStrT t = true) : t = .str := by cases t <;> first | rfl | cases h
theorem range_flat (zs : List Value) (k : Nat) (f : Nat → Value) (hf : ∀ i, i < zs.length → f i = zs.getD i undef) (hm : ∀ i, f i = f (i % zs.length)) : (List.range (k * zs.length)).map f = (List.replicate k zs).flatten := by
  induction k with
  | zero => simp
  | succ k ih =>
    rw [Nat.add_mul, Nat.one_mul, List.range_add, List.map_append, ih, List.replicate_succ', List.flatten_append]
    congr 1
    apply List.ext_getElem?
    intro j
    simp only [List.map_map, List.getElem?_map, List.getElem?_range', List.flatten_cons, List.flatten_nil, List.append_nil]
    by_cases hj : j < zs.length
    · rw [List.getElem?_range hj]
      simp only [Option.map_some, Function.comp]
      rw [hm, Nat.add_comm, Nat.add_mul_mod_self_right, Nat.mod_eq_of_lt hj, hf j hj]
      simp [List.getD, List.getElem?_eq_getElem hj]
    · rw [List.getElem?_eq_none (by simpa using hj), List.getElem?_eq_none (by simpa using hj)]; rfl
theorem modCells (z : Array Value) (k : Nat) : ((Array.range (k * z.size)).map (fun i => z[i % z.size]!)).toList = (List.replicate k z.toList).flatten := by
  rw [Array.toList_map, Array.toList_range]
  have := range_flat z.toList k (fun i => z[i % z.size]!) (fun i hi => by
    rw [Array.length_toList] at hi
    rw [Nat.mod_eq_of_lt hi]
    simp [List.getD, hi]) (fun i => by simp)
  simpa using this
theorem pk_zero_cells (t : Ty) : (pk t (zc t)).cells.toList = zc t := by
  have hl : (zc t).length = t.size := by rw [denL_length (den_zero (ρ := En.any) (m := fun _ => none) t), zero_length]
  unfold pk
  cases ha : t.isAgg with
  | true => simp [Value.cells]
  | false =>
    simp only [Bool.false_eq_true, if_false]
    cases ht : t <;> rw [ht] at ha <;> first | rfl | cases ha
theorem pk_zero_size (t : Ty) : (pk t (zc t)).cells.size = t.size := by
  rw [← Array.length_toList, pk_zero_cells, denL_length (den_zero (ρ := En.any) (m := fun _ => none) t), zero_length]
theorem op_buildSlice (hT : TysOk P Γ.tys) (h : Rep P ρ N S H m a w) (hU : ∀ id, m id ≠ none → U id) (hd : ∀ d, o.dst = some d → d < N) (hf : ∀ j, fresh ≤ j → j < r.2 → ¬ U j) {t : TypeId} {n : Nat} {ps : Array (Nat × Operand)} (ho : o.op = .buildSlice t n ps)
    (hr : (tyR Γ t fun ti => tyR Γ ti.el fun te => partsR ps.toList fun vs => bif isSl ti.ty && Nat.ble (n * te.ty.size) 16777216 then optR 5 (fillArr n te.ty.size vs (rep n te.ty.zero)) fun cs => dstR o (.sl fresh 0 n n false) [.obj fresh (some (.cells ti.el cs false))] (fresh + 1) else .fail 248).run S H = some r) :
    o.wp P a w (After P ρ N U fresh S H m r) Q := by
  replace hr := tyR_ok hT hr
  obtain ⟨ti, hti, hr⟩ := hr
  have hsh := hti.shape
  replace hr := tyR_ok hT hr
  obtain ⟨te, hte, hr⟩ := hr
  replace hr := partsR_ok h hr
  obtain ⟨vs, hall, hr⟩ := hr
  replace hr := run_bif hr
  obtain ⟨hb, hr⟩ := hr
  simp only [Bool.and_eq_true] at hb
  rw [is_sl hb.1] at hsh
  simp only [TSh] at hsh
  have h24 := Nat.le_of_ble_eq_true hb.2
  replace hr := run_optR hr
  obtain ⟨cs, hcs, hr⟩ := hr
  obtain ⟨ie, hi, hz, hs, _⟩ := hte.parts
  have hz0 : denL ρ m (rep n te.ty.zero) = some (List.replicate n (zc te.ty)).flatten := denL_rep (den_zero te.ty) n
  obtain ⟨xs', r1, r2, r3, r4⟩ := fill_arr (ρ := ρ) (m := m) (a := a) hte.pos hall hcs hz0 (zero_one (.arr n te.ty)) (zero_length (.arr n te.ty))
  have hnx := dst_nx hr
  have hn := fresh_none hU (hf fresh (Nat.le_refl _) (by omega))
  have hrep := h.heap.newCells (el := ti.el) hn r2 r3
  have hps : (ps.map fun (i, x) => (i, a.eval x)).toList = ps.toList.map fun p => (p.1, a.eval p.2) := by rw [Array.toList_map]
  have hcells : (Array.range (n * ie.size)).map ((pk te.ty (zc te.ty)).cells[· % (pk te.ty (zc te.ty)).cells.size]!) = (List.replicate n (zc te.ty)).flatten.toArray := by
    apply Array.toList_inj.1
    rw [hs, ← pk_zero_size te.ty, modCells, pk_zero_cells]
  refine fin_val h hd (v := .slice (some ⟨w.heap.size, 0, none⟩) n n) ?_ (Mp.le_set hn) (ws0 := [.obj fresh (some (.cells ti.el cs false))]) hrep (fun z hz => by simp at hz; exact ⟨_, _, hz⟩) (by simp [den, Mp.set_same]) (dom_set hU (Nat.le_refl _) (Nat.lt_succ_self _)) hr
  have hxl : xs'.length = n * te.ty.size := (denL_length r2).trans r4
  rcases Nat.eq_zero_or_pos n with h0 | h0
  · subst h0
    have hx0 : xs' = [] := List.eq_nil_of_length_eq_zero (by omega)
    subst hx0
    have r5 : Instr.fill (fun i => some (i * te.ty.size, te.ty.size)) #[] (ps.toList.map fun p => (p.1, a.eval p.2)) = some #[] := r1
    have hpar : (ps.map fun (i, x) => (i, a.eval x)).toList = ps.toList.map fun p => (p.1, a.eval p.2) := hps
    simp only [execOp, ho, Instr.buildSlice, Sem.run_bind, run_underlying hsh, Result.andThen_ok, run_sizeOf hte.eok, Nat.zero_mul, if_true, Sem.run_pure, hpar]
    simp [r5, newRow, show (Array.range 0 : Array Nat) = #[] from rfl]
  · have hsz : ¬ (n * ie.size > 2 ^ 24) := by rw [hs]; omega
    have hsz0 : ¬ (n * ie.size = 0) := by rw [hs]; exact Nat.mul_ne_zero (by omega) (by have := hte.pos; omega)
    have hrun := run_buildSlice (P := P) w t ti.el n (ps.map fun (i, x) => (i, a.eval x)) xs'.toArray ie _ hsh hi hz hsz hsz0 (by rw [hcells, hps, hs]; exact r1)
    simp only [execOp, ho, Sem.run_bind, hrun, Result.andThen_ok, Sem.run_pure]
theorem op_makeSlice (hT : TysOk P Γ.tys) (h : Rep P ρ N S H m a w) (hU : ∀ id, m id ≠ none → U id) (hd : ∀ d, o.dst = some d → d < N) (hf : ∀ j, fresh ≤ j → j < r.2 → ¬ U j) {t : TypeId} {x y : Operand} (ho : o.op = .makeSlice t x y)
    (hr : (tyR Γ t fun ti => tyR Γ ti.el fun te => opdR x fun v => opdR y fun u => evMakeSlice fresh o (isSl ti.ty) ti.el te (litN v) (litN u)).run S H = some r) :
    o.wp P a w (After P ρ N U fresh S H m r) Q := by
  replace hr := tyR_ok hT hr
  obtain ⟨ti, hti, hr⟩ := hr
  have hsh := hti.shape
  replace hr := tyR_ok hT hr
  obtain ⟨te, hte, hr⟩ := hr
  replace hr := opdR_ok h hr
  obtain ⟨v, h1, hr⟩ := hr
  replace hr := opdR_ok h hr
  obtain ⟨u, h2, hr⟩ := hr
  unfold evMakeSlice at hr
  split at hr
  · rename_i n c hn hc
    replace hr := run_bif hr
    obtain ⟨hb, hr⟩ := hr
    simp only [Bool.and_eq_true, room, decide_eq_true_eq] at hb
    obtain ⟨⟨⟨b1, b2⟩, b3⟩, b4⟩ := hb
    rw [is_sl b1] at hsh
    simp only [TSh] at hsh
    have b2 := Nat.le_of_ble_eq_true b2
    have b4 := Nat.le_of_ble_eq_true b4
    obtain ⟨k1, e1⟩ := litN_ok hn h1
    obtain ⟨k2, e2⟩ := litN_ok hc h2
    obtain ⟨i, hi, hz, hs, hby⟩ := hte.parts
    have hc48 : (i.bytes : Int) * (c : Int) ≤ 281474976710656 := by
      rw [hby, ← Int.natCast_mul, Nat.mul_comm]; omega
    have hmk := run_make (P := P) w t ti.el i _ hsh hi hz k1 k2 (n : Int) (c : Int) (by omega) (by omega) hc48 (by omega)
    have hnx := dst_nx hr
    have hfn := fresh_none hU (hf fresh (Nat.le_refl _) (by omega))
    have hcells : (madeCells (pk te.ty (zc te.ty)).cells (c * i.size)).toList = (List.replicate c (zc te.ty)).flatten := by
      unfold madeCells; rw [hs, ← pk_zero_size te.ty, modCells, pk_zero_cells]
    have hrep := h.heap.newCells (el := ti.el) hfn (denL_rep (den_zero te.ty) c) (zero_one (.arr c te.ty))
    rw [← hcells] at hrep
    refine fin_val h hd (v := .slice (some ⟨w.heap.size, 0, none⟩) n c) ?_ (Mp.le_set hfn) (ws0 := [.obj fresh (some (.cells ti.el (rep c te.ty.zero) false))]) hrep (fun z hz => by simp at hz; exact ⟨_, _, hz⟩) (by simp [den, Mp.set_same]) (dom_set hU (Nat.le_refl _) (Nat.lt_succ_self _)) hr
    simp only [Int.toNat_natCast] at hmk
    simp only [execOp, ho, Sem.run_bind, e1, e2, hmk, Result.andThen_ok, Sem.run_pure]
  · exact run_fail hr
end
end Go.Proofs.YtehbbcdhahnkgaaGreat.Hm
