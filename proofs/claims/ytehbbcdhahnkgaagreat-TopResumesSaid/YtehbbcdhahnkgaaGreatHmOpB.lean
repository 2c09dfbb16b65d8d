/- The heap machine and the machine: loads, stores, new objects, literals. -/
import Derived.Test.YtehbbcdhahnkgaaGreatHmOpA
import Derived.Laws.IdiomStrings
set_option linter.unusedVariables false
set_option linter.unusedSimpArgs false
namespace Go.Proofs.YtehbbcdhahnkgaaGreat.Hm
open Go
theorem putV_append {xs ys post : List Value} {o : Nat} (h : o + ys.length ≤ xs.length) : putV (xs ++ post) o ys = putV xs o ys ++ post := by
  unfold putV
  rw [List.take_append_of_le_length (by omega), List.drop_append_of_le_length h, List.append_assoc, List.append_assoc, List.append_assoc]
theorem one_cells {ρ : En} {m : Mp} : ∀ {l : List HV} {xs : List Value}, denL ρ m l = some xs → l.all HV.one = true → ∀ u ∈ xs, u.oneCell' = true
  | [], xs, h, _, u, hu => by simp only [denL] at h; cases h; simp at hu
  | v :: l, xs, h, ho, u, hu => by
    obtain ⟨x, ys, h1, h2, rfl⟩ := denL_cons h
    simp only [List.all_cons, Bool.and_eq_true] at ho
    rcases List.mem_cons.1 hu with rfl | hu
    · exact (one_cell h1 ho.1).1
    · exact one_cells h2 ho.2 u hu
section
variable {P : Program} {Γ : Ctx} {ρ : En} {N : Nat} {S : Sl} {H : Hp} {m : Mp} {a : Act} {w : World} {o : Oper} {U : Nat → Prop} {fresh : Nat} {r : List Wr × Nat} {Q : Exit → Act → World → Prop}

theorem put_length {l new : List HV} {o : Nat} (h : o + new.length ≤ l.length) : (putAt l o new).length = l.length := by
  rw [putAt_eq l o new (by omega)]; simp only [List.length_append, List.length_take, List.length_drop]; omega
theorem HRep.put (h : HRep P ρ H m w) {id el : Nat} {cs : List HV} {op : Bool} (hi : H id = some (.cells el cs op)) {k : Nat} {new : List HV} {ys : List Value} (hd : denL ρ m new = some ys) (h1 : new.all HV.one = true) (hk : k + new.length ≤ cs.length) :
    ∃ b s vs post, m id = some (b, s) ∧ denL ρ m cs = some vs ∧ w.heap[b]? = some (.cells (vs ++ post).toArray el (0, 0)) ∧ HRep P ρ (upd H id (some (.cells el (putAt cs k new) op))) m (w.setRow b (putV (vs ++ post) k ys).toArray) := by
  obtain ⟨b, s, vs, post, q1, q2, q3, q4, q5, q6, q7⟩ := h.objs id _ hi
  refine ⟨b, s, vs, post, q1, q2, q4, h.write hi q1 (fun j hj => Go.setRow_other w b j _ hj) ?_ ⟨rfl, rfl, rfl⟩ rfl⟩
  have hyl := denL_length hd
  have hvl := denL_length q2
  refine ⟨b, s, putV vs k ys, post, q1, denL_put q2 hd (by omega), all_putAt q3 h1 (by omega), ?_, q5, q6, by rw [put_length (by omega)]; exact q7⟩
  rw [putV_append (by omega)]
  exact Go.setRow_heap w b _ _ el (0, 0) q4
theorem HRep.newCells (h : HRep P ρ H m w) {id el : Nat} {cs : List HV} {vs : List Value} (hn : m id = none) (hd : denL ρ m cs = some vs) (h1 : cs.all HV.one = true) :
    HRep P ρ (upd H id (some (.cells el cs false))) (m.set id w.heap.size 0) (w.alloc (.cells vs.toArray el)) := by
  refine h.new hn (fun k hk => Go.heap_alloc_old w _ k hk) (Nat.le_refl _) ?_ ⟨rfl, rfl, rfl⟩
  exact ⟨w.heap.size, 0, vs, [], Mp.set_same _ _ _ _, denL_mono (Mp.le_set hn) hd, h1, by rw [List.append_nil]; exact Go.heap_alloc_new w _, by simp, fun _ => rfl, .inl rfl⟩
theorem dom_set {id b s nx : Nat} (hU : ∀ id, m id ≠ none → U id) (h1 : fresh ≤ id) (h2 : id < nx) : ∀ k, m.set id b s k ≠ none → U k ∨ (fresh ≤ k ∧ k < nx) := by
  intro k hk
  by_cases e : k = id
  · subst e; exact .inr ⟨h1, h2⟩
  · exact .inl (hU k (by simpa [Mp.set, e] using hk))
theorem dst_nx {v : HV} {ws : List Wr} {nx : Nat} (h : (dstR o v ws nx).run S H = some r) : r.2 = nx := by
  unfold dstR at h
  cases hd : o.dst with
  | none => rw [hd] at h; rw [run_fin h]
  | some d =>
    rw [hd] at h
    have h : (forceV v fun v => RT.fin (.slot d (some v) :: ws) nx).run S H = some r := h
    rw [forceV_eq] at h
    rw [run_fin h]
theorem fresh_none (hU : ∀ id, m id ≠ none → U id) {id : Nat} (h : ¬ U id) : m id = none := by
  cases hq : m id with
  | none => rfl
  | some q => exact absurd (hU id (by rw [hq]; simp)) h

theorem run_loadAt {e : TypeId} {t : Ty} {b off el : Nat} {fr : Nat × Nat} {arr : List Value} (he : EOk P e t) (hg : w.heap[b]? = some (.cells arr.toArray el fr)) (hl : off + t.size ≤ arr.length) :
    (Instr.loadAt e (.pointer (some ⟨b, off, none⟩))).run P w = .ok (pk t ((arr.drop off).take t.size)) w := by
  have hc : ∀ j u, ((arr.drop off).take t.size)[j]? = some u → w.cell? ⟨b, off + j, none⟩ = some u := by
    intro j u hu
    rw [cell_of_row w b _ _ el fr hg]
    rw [List.getElem?_take] at hu
    split at hu
    · rw [List.getElem?_drop] at hu; simpa using hu
    · cases hu
  have hlen : ((arr.drop off).take t.size).length = t.size := by simp only [List.length_take, List.length_drop]; omega
  unfold pk
  cases ha : t.isAgg with
  | true =>
    obtain ⟨h1, _, d, hu, hdr⟩ := id he
    simp only [if_true]
    exact run_loadAt_mid w b off e _ d hc hu (hdr.trans ha) (by rw [h1, hlen])
  | false =>
    have hsz : t.size = 1 := by cases t <;> first | rfl | cases ha
    rw [hsz] at hlen hc
    obtain ⟨v, hv⟩ := List.length_eq_one_iff.1 hlen
    have := hc 0 v (by rw [hv]; rfl)
    rw [Nat.add_zero] at this
    rw [hsz, hv]
    simp only [Instr.loadAt, Instr.sureAddr, loadVar, Sem.run_bind, Sem.run_pure, Result.andThen_ok, run_isAgg he, ha, Bool.false_eq_true, if_false, Go.run_load, this]
    rfl
theorem run_storeAt {e : TypeId} {t : Ty} {b off el : Nat} {arr us : List Value} {x : Value} (he : EOk P e t) (hg : w.heap[b]? = some (.cells arr.toArray el (0, 0))) (hx : x.cells.toList = us) (hu : us.length = t.size) (h1 : ∀ u ∈ us, u.oneCell' = true) (hl : off + us.length ≤ arr.length) :
    (Instr.storeAt e (.pointer (some ⟨b, off, none⟩)) x).run P w = .ok () (w.setRow b (putV arr off us).toArray) := by
  have hst := run_storeCells_at P b off el us 0 arr.toArray w hg (by simpa using hl) (fun v hv => h1 v hv)
  simp only [Nat.add_zero] at hst
  have hsz : x.cells.size = t.size := by rw [← Array.length_toList, hx, hu]
  simp only [Instr.storeAt, Instr.sureAddr, storeVar, Sem.run_bind, Sem.run_pure, Result.andThen_ok, run_sizeOf he, hsz, ne_eq, not_true_eq_false, if_false, hx]
  exact hst
theorem den_p {id off : Nat} {x : Value} (h : den ρ m (.p id off) = some x) : ∃ q, m id = some q ∧ x = .pointer (some ⟨q.1, off, none⟩) := by
  simp only [den] at h
  split at h
  · rename_i q hq; cases h; exact ⟨q, hq, rfl⟩
  · cases h
theorem op_load (hT : TysOk P Γ.tys) (h : Rep P ρ N S H m a w) (hU : ∀ id, m id ≠ none → U id) (hd : ∀ d, o.dst = some d → d < N) {t : TypeId} {x : Operand} (ho : o.op = .load t x)
    (hr : (tyR Γ t fun ti => opdR x (evLoad fresh o ti.ty)).run S H = some r) : o.wp P a w (After P ρ N U fresh S H m r) Q := by
  replace hr := tyR_ok hT hr
  obtain ⟨ti, hti, hr⟩ := hr
  replace hr := opdR_ok h hr
  obtain ⟨v, h1, hr⟩ := hr
  unfold evLoad at hr
  split at hr
  · rename_i id off
    replace hr := run_obj hr
    obtain ⟨ob, hob, hr⟩ := hr
    unfold evLoadO at hr
    replace hr := run_optR hr
    obtain ⟨cs, hcs, hr⟩ := hr
    replace hr := run_bif hr
    obtain ⟨hb, hr⟩ := hr
    replace hr := run_optR hr
    obtain ⟨z, h3, hr⟩ := hr
    obtain ⟨b, s, vs, post, el, fr, q1, q2, q3, q4⟩ := (h.heap.objs id _ hob).rd hcs
    obtain ⟨q, e1, e2⟩ := den_p h1
    rw [q1] at e1; cases e1
    have hle := inside_le hb
    have hvl := denL_length q2
    have hrun := run_loadAt (off := off) hti.eok q4 (by rw [List.length_append]; omega)
    rw [List.drop_append_of_le_length (by omega), List.take_append_of_le_length (by rw [List.length_drop]; omega)] at hrun
    refine fin_pure h hU hd ?_ (den_valOf h3 (denL_cut _ _ q2) (all_cut _ _ q3)) hr
    simp only [execOp, ho]
    rw [e2, Sem.run_bind, hrun]
    rfl
  · exact run_fail hr
theorem op_store (hT : TysOk P Γ.tys) (h : Rep P ρ N S H m a w) (hU : ∀ id, m id ≠ none → U id) {t : TypeId} {x y : Operand} (ho : o.op = .store t x y)
    (hr : (tyR Γ t fun ti => opdR x fun v => opdR y fun u => evStore fresh o ti.ty.size u.cells v).run S H = some r) : o.wp P a w (After P ρ N U fresh S H m r) Q := by
  replace hr := tyR_ok hT hr
  obtain ⟨ti, hti, hr⟩ := hr
  replace hr := opdR_ok h hr
  obtain ⟨v, h1, hr⟩ := hr
  replace hr := opdR_ok h hr
  obtain ⟨u, h2, hr⟩ := hr
  unfold evStore at hr
  split at hr
  · rename_i id off
    replace hr := run_obj hr
    obtain ⟨ob, hob, hr⟩ := hr
    unfold evStoreO at hr
    split at hr
    · rename_i el cs opn
      replace hr := run_bif hr
      obtain ⟨hb, hr⟩ := hr
      simp only [Bool.and_eq_true] at hb
      have hle := inside_le hb.1
      have hul := Nat.eq_of_beq_eq_true hb.2
      have hpos := hti.pos
      obtain ⟨c1, c2⟩ := den_cells h2 (by omega)
      obtain ⟨b, s, vs, post, q1, q2, q4, q5⟩ := h.heap.put hob c1 c2 (k := off) (by omega)
      obtain ⟨q, e1, e2⟩ := den_p h1
      rw [q1] at e1; cases e1
      have hvl := denL_length q2
      have hcl := denL_length c1
      have hrun := run_storeAt (off := off) hti.eok q4 (x := a.eval y) rfl (by rw [hcl, hul]) (one_cells c1 c2) (by rw [List.length_append, hcl]; omega)
      refine fin_skip h hU (ws0 := [.obj id (some (.cells el (putAt cs off u.cells) opn))]) ?_ q5 (fun z hz => by simp at hz; exact ⟨_, _, hz⟩) hr
      simp only [execOp, ho]
      rw [e2, Sem.run_bind, hrun]
      rfl
    · exact run_fail hr
  · exact run_fail hr
theorem zero_cells {i : TypeId} {ti : TI} (h : TOk P i ti) : ∃ z, (zeroValue i).run P w = .ok z w ∧ z.cells.toList = zc ti.ty := by
  obtain ⟨x, h1, h2, h3, h4⟩ := h.parts
  refine ⟨pk ti.ty (zc ti.ty), by simp [zeroValue, typeInfo, h1, h2], ?_⟩
  have hl : (zc ti.ty).length = ti.ty.size := by rw [denL_length (den_zero (ρ := En.any) (m := fun _ => none) ti.ty), zero_length]
  unfold pk
  cases ha : ti.ty.isAgg with
  | true => simp [Value.cells]
  | false =>
    simp only [Bool.false_eq_true, if_false]
    cases ht : ti.ty <;> rw [ht] at ha <;> first | rfl | cases ha
theorem op_alloc (hT : TysOk P Γ.tys) (h : Rep P ρ N S H m a w) (hU : ∀ id, m id ≠ none → U id) (hd : ∀ d, o.dst = some d → d < N) (hf : ∀ j, fresh ≤ j → j < r.2 → ¬ U j) {e : TypeId} (ho : o.op = .alloc e)
    (hr : (tyR Γ e fun ti => dstR o (.p fresh 0) [.obj fresh (some (.cells e ti.ty.zero false))] (fresh + 1)).run S H = some r) : o.wp P a w (After P ρ N U fresh S H m r) Q := by
  replace hr := tyR_ok hT hr
  obtain ⟨ti, hti, hr⟩ := hr
  have hnx := dst_nx hr
  have hn := fresh_none hU (hf fresh (Nat.le_refl _) (by omega))
  obtain ⟨z, hz, hzc⟩ := zero_cells (w := w) hti
  have hrep := h.heap.newCells (el := e) hn (den_zero ti.ty) (zero_one ti.ty)
  have hzc' : (zc ti.ty).toArray = z.cells := by rw [← hzc]
  rw [hzc'] at hrep
  refine fin_val h hd (v := .pointer (some ⟨w.heap.size, 0, none⟩)) ?_ (Mp.le_set hn) (ws0 := [.obj fresh (some (.cells e ti.ty.zero false))]) hrep (fun z hz => by simp at hz; exact ⟨_, _, hz⟩) (by simp only [den, Mp.set_same]) (dom_set hU (Nat.le_refl _) (Nat.lt_succ_self _)) hr
  simp only [execOp, ho, Instr.alloc, Sem.run_bind, hz, Result.andThen_ok, newVar, newRow, run_newObj, Sem.run_pure]
  rfl
theorem op_box (hT : TysOk P Γ.tys) (h : Rep P ρ N S H m a w) (hU : ∀ id, m id ≠ none → U id) (hd : ∀ d, o.dst = some d → d < N) (hf : ∀ j, fresh ≤ j → j < r.2 → ¬ U j) {e : TypeId} {x : Operand} (ho : o.op = .box e x)
    (hr : (tyR Γ e fun ti => opdR x (evBox fresh o e ti)).run S H = some r) : o.wp P a w (After P ρ N U fresh S H m r) Q := by
  replace hr := tyR_ok hT hr
  obtain ⟨ti, hti, hr⟩ := hr
  replace hr := opdR_ok h hr
  obtain ⟨v, h1, hr⟩ := hr
  unfold evBox at hr
  replace hr := run_bif hr
  obtain ⟨hb, hr⟩ := hr
  have hb := Nat.eq_of_beq_eq_true hb
  have hpos := hti.pos
  obtain ⟨c1, c2⟩ := den_cells h1 (by omega)
  have hnx := dst_nx hr
  have hn := fresh_none hU (hf fresh (Nat.le_refl _) (by omega))
  have hrep := h.heap.newCells (el := e) hn c1 c2
  have hzc' : (a.eval x).cells.toList.toArray = (a.eval x).cells := rfl
  rw [hzc'] at hrep
  refine fin_val h hd (v := .pointer (some ⟨w.heap.size, 0, none⟩)) ?_ (Mp.le_set hn) (ws0 := [.obj fresh (some (.cells e v.cells false))]) hrep (fun z hz => by simp at hz; exact ⟨_, _, hz⟩) (by simp only [den, Mp.set_same]) (dom_set hU (Nat.le_refl _) (Nat.lt_succ_self _)) hr
  simp only [execOp, ho, Instr.box, Sem.run_bind, Result.andThen_ok, newVar, newRow, run_newObj, Sem.run_pure]
  rfl
theorem run_fieldAt {t : TypeId} {fs : Array Field} {k : Nat} {fl : Field} {u : Ty} {b off : Nat} (hu : P.underlying t = some (.struct fs)) (hf : fs.toList[k]? = some fl) (he : EOk P fl.type u) :
    (Instr.fieldAt t (.pointer (some ⟨b, off, none⟩)) k).run P w = .ok (.pointer (some ⟨b, off + fl.offset, none⟩)) w := by
  have hne : ¬ u.size = 0 := by have := he.2.1; omega
  simp only [Instr.fieldAt, Sem.run_bind, run_underlying hu, Result.andThen_ok]
  rw [show fs[k]? = some fl by rw [← Array.getElem?_toList]; exact hf]
  simp only [Instr.sureAddr, fieldPlace, Sem.run_bind, Sem.run_pure, Result.andThen_ok, run_sizeOf he, if_neg hne, Addr.add_mid]
theorem op_fieldAddr (hT : TysOk P Γ.tys) (h : Rep P ρ N S H m a w) (hU : ∀ id, m id ≠ none → U id) (hd : ∀ d, o.dst = some d → d < N) {t : TypeId} {x : Operand} {f : Nat} (ho : o.op = .fieldAddr t x f)
    (hr : (tyR Γ t fun ti => opdR x (evFieldAddr fresh o ti f)).run S H = some r) : o.wp P a w (After P ρ N U fresh S H m r) Q := by
  replace hr := tyR_ok hT hr
  obtain ⟨ti, hti, hr⟩ := hr
  replace hr := opdR_ok h hr
  obtain ⟨v, h1, hr⟩ := hr
  unfold evFieldAddr at hr
  split at hr
  · rename_i id off
    split at hr
    · rename_i u hu
      obtain ⟨A, B, hty⟩ := fldTy_pair hu
      have hs := hti.shape
      rw [hty] at hs
      obtain ⟨fs, hfu, hfs⟩ := hs
      rw [← hty] at hfs
      obtain ⟨fl, h4, h5, h6⟩ := hfs.at_ hu
      obtain ⟨q, e1, e2⟩ := den_p h1
      refine fin_pure h hU hd (v := .pointer (some ⟨q.1, off + fldOff ti.ty f, none⟩)) ?_ (by simp only [den, e1]) hr
      simp only [execOp, ho]
      rw [e2, Sem.run_bind, run_fieldAt hfu h4 h6, h5, Nat.zero_add]
      rfl
    · exact run_fail hr
  · exact run_fail hr
theorem run_indexAt_sl {t e : TypeId} {u : Ty} {b off n c : Nat} {kd : IntKind} {i : Nat} (hu : P.underlying t = some (.slice e)) (he : EOk P e u) (hi : i < n) :
    (Instr.indexAt t (.slice (some ⟨b, off, none⟩) n c) (.int kd (i : Int))).run P w = .ok (.pointer (some ⟨b, off + i * u.size, none⟩)) w := by
  have c1 : (0 : Int) ≤ (i : Int) ∧ (i : Int) < (n : Int) := ⟨by omega, by omega⟩
  simp only [Instr.indexAt, asIntOf, Sem.run_bind, Sem.run_pure, Result.andThen_ok, run_underlying hu, if_pos c1, run_sizeOf he, Int.toNat_natCast, Addr.add_mid]
theorem run_indexAt_arr {t e : TypeId} {u : Ty} {b off n : Nat} {kd : IntKind} {i : Nat} (hu : P.underlying t = some (.array n e)) (he : EOk P e u) (hi : i < n) :
    (Instr.indexAt t (.pointer (some ⟨b, off, none⟩)) (.int kd (i : Int))).run P w = .ok (.pointer (some ⟨b, off + i * u.size, none⟩)) w := by
  have c1 : (0 : Int) ≤ (i : Int) ∧ (i : Int) < (n : Int) := ⟨by omega, by omega⟩
  simp only [Instr.indexAt, asIntOf, Instr.sureAddr, Sem.run_bind, Sem.run_pure, Result.andThen_ok, run_underlying hu, if_pos c1, run_sizeOf he, Int.toNat_natCast, Addr.add_mid]
theorem den_sl {id off n c : Nat} {op : Bool} {x : Value} (h : den ρ m (.sl id off n c op) = some x) : ∃ q, m id = some q ∧ x = .slice (some ⟨q.1, off, none⟩) n (c + bif op then q.2 else 0) := by
  simp only [den] at h
  split at h
  · rename_i q hq; cases h; exact ⟨q, hq, rfl⟩
  · cases h
theorem op_indexAddr (hT : TysOk P Γ.tys) (h : Rep P ρ N S H m a w) (hU : ∀ id, m id ≠ none → U id) (hd : ∀ d, o.dst = some d → d < N) {t : TypeId} {x i : Operand} (ho : o.op = .indexAddr t x i)
    (hr : (tyR Γ t fun ti => opdR x fun v => opdR i fun u => optR 40 (litN u) fun i => evIndexAddr Γ fresh o ti i v).run S H = some r) : o.wp P a w (After P ρ N U fresh S H m r) Q := by
  replace hr := tyR_ok hT hr
  obtain ⟨ti, hti, hr⟩ := hr
  replace hr := opdR_ok h hr
  obtain ⟨v, h1, hr⟩ := hr
  replace hr := opdR_ok h hr
  obtain ⟨u, h2, hr⟩ := hr
  replace hr := run_optR hr
  obtain ⟨n, h3, hr⟩ := hr
  obtain ⟨kd, hi⟩ := litN_ok h3 h2
  have hs := hti.shape
  unfold evIndexAddr at hr
  split at hr
  · rename_i id off len c op
    replace hr := run_bif hr
    obtain ⟨hsl, hr⟩ := hr
    replace hr := tyR_ok hT hr
    obtain ⟨te, hte, hr⟩ := hr
    replace hr := run_bif hr
    obtain ⟨hb, hr⟩ := hr
    have hn : n < len := Nat.le_of_ble_eq_true hb
    have hty : ti.ty = .sl := by cases hq : ti.ty <;> rw [hq] at hsl <;> first | rfl | cases hsl
    rw [hty] at hs
    simp only [TSh] at hs
    obtain ⟨q, e1, e2⟩ := den_sl h1
    refine fin_pure h hU hd (v := .pointer (some ⟨q.1, off + n * te.ty.size, none⟩)) ?_ (by simp only [den, e1]) hr
    simp only [execOp, ho]
    rw [e2, hi, Sem.run_bind, run_indexAt_sl hs hte.eok hn]
    rfl
  · rename_i id off
    split at hr
    · rename_i len u hty
      replace hr := run_bif hr
      obtain ⟨hb, hr⟩ := hr
      have hn : n < len := Nat.le_of_ble_eq_true hb
      rw [hty] at hs
      obtain ⟨hu, he⟩ := hs
      obtain ⟨q, e1, e2⟩ := den_p h1
      refine fin_pure h hU hd (v := .pointer (some ⟨q.1, off + n * u.size, none⟩)) ?_ (by simp only [den, e1]) hr
      simp only [execOp, ho]
      rw [e2, hi, Sem.run_bind, run_indexAt_arr hu he hn]
      rfl
    · exact run_fail hr
  · exact run_fail hr
end
end Go.Proofs.YtehbbcdhahnkgaaGreat.Hm
