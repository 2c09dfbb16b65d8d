/- The heap machine and the machine: built-in functions, conversions. -/
import Derived.Test.YtehbbcdhahnkgaaGreatHmOpE
set_option linter.unusedVariables false
set_option linter.unusedSimpArgs false
namespace Go.Proofs.YtehbbcdhahnkgaaGreat.Hm
open Go
section
variable {P : Program} {Γ : Ctx} {ρ : En} {N : Nat} {S : Sl} {H : Hp} {m : Mp} {a : Act} {w : World} {o : Oper} {U : Nat → Prop} {fresh : Nat} {r : List Wr × Nat} {Q : Exit → Act → World → Prop}

theorem op_append (hT : TysOk P Γ.tys) (h : Rep P ρ N S H m a w) (hU : ∀ id, m id ≠ none → U id) (hd : ∀ d, o.dst = some d → d < N) (hf : ∀ j, fresh ≤ j → j < r.2 → ¬ U j) {c : Call} {x y : Operand} (ho : o.op = .call c) (hc : c.callee = .builtin .append) (ha : c.args = #[x, y]) {tx ty : TypeId} (hty : c.argTypes.toList = [tx, ty])
    (hr : (evAppT Γ fresh o x y tx ty).run S H = some r) : o.wp P a w (After P ρ N U fresh S H m r) Q := by
  have hat : c.argTypes = #[tx, ty] := by apply Array.toList_inj.1; rw [hty]
  have hx : ∀ r w', (Builtin.append_ #[tx, ty] o.type #[a.eval x, a.eval y]).run P w = .ok r w' → (execOp a.eval o).run P w = .ok (.value r) w' := by
    intro r w' hrun
    simp only [execOp, ho, resolve, hc, ha, hat, Sem.run_bind, Sem.run_pure, Result.andThen_ok, invoke, builtin, List.map_toArray, List.map_cons, List.map_nil, hrun]
  have core : ∀ (str : Bool) (ti te : TI), TOk P ti.el te → P.underlying tx = some (.slice ti.el) → KindOk P str ty → (evAppend fresh o x y str ti te).run S H = some r → o.wp P a w (After P ρ N U fresh S H m r) Q := by
    intro str ti te hte ht hk hr
    unfold evAppend at hr
    replace hr := opdR_ok h hr
    obtain ⟨v, h1, hr⟩ := hr
    replace hr := opdR_ok h hr
    obtain ⟨u, h2, hr⟩ := hr
    obtain ⟨ys, n, news, g1, g2, g3, g4, hr⟩ := elemsR_ok h hk h2 hr
    exact appendR_ok h hU hd hf ht hte h1 g1 g2 g3 g4 hx hr
  unfold evAppT at hr
  replace hr := tyR_ok hT hr
  obtain ⟨ti, hti, hr⟩ := hr
  replace hr := tyR_ok hT hr
  obtain ⟨te, hte, hr⟩ := hr
  replace hr := run_bif hr
  obtain ⟨hsl, hr⟩ := hr
  have hsh := hti.shape
  rw [is_sl hsl] at hsh
  simp only [TSh] at hsh
  cases hb : Nat.beq tx ty
  · rw [hb] at hr
    simp only [cond_false] at hr
    replace hr := tyR_ok hT hr
    obtain ⟨tj, htj, hr⟩ := hr
    replace hr := run_bif hr
    obtain ⟨hss, hr⟩ := hr
    have hsj := htj.shape
    refine core _ ti te hte hsh ?_ hr
    cases hq : tj.ty <;> rw [hq] at hss hsj <;> (try cases hss)
    · exact hsj
    · exact ⟨_, hsj⟩
  · rw [hb] at hr
    have hb := Nat.eq_of_beq_eq_true hb
    subst hb
    exact core false ti te hte hsh ⟨_, hsh⟩ hr
theorem op_clear (hT : TysOk P Γ.tys) (h : Rep P ρ N S H m a w) (hU : ∀ id, m id ≠ none → U id) (hd : ∀ d, o.dst = some d → d < N) {c : Call} {x : Operand} (ho : o.op = .call c) (hc : c.callee = .builtin .clear) (ha : c.args = #[x]) {t : TypeId} (hty : c.argTypes.toList = [t])
    (hr : (tyR Γ t fun ti => opdR x (evClear Γ fresh o ti)).run S H = some r) : o.wp P a w (After P ρ N U fresh S H m r) Q := by
  have hat : c.argTypes = #[t] := by apply Array.toList_inj.1; rw [hty]
  have hx : ∀ r w', (Builtin.clear_ #[t] o.type #[a.eval x]).run P w = .ok r w' → (execOp a.eval o).run P w = .ok (.value r) w' := by
    intro r w' hrun
    simp only [execOp, ho, resolve, hc, ha, hat, Sem.run_bind, Sem.run_pure, Result.andThen_ok, invoke, builtin, List.map_toArray, List.map_cons, List.map_nil, hrun]
  replace hr := tyR_ok hT hr
  obtain ⟨ti, hti, hr⟩ := hr
  replace hr := opdR_ok h hr
  obtain ⟨v, h1, hr⟩ := hr
  obtain ⟨du, hu, _⟩ := hti.row
  have none_ : ∀ A c, (Builtin.clear_ #[t] o.type #[.slice A 0 c]).run P w = .ok (.tuple #[]) w := by
    intro A c
    cases A <;> simp [Builtin.clear_, run_underlying hu]
  unfold evClear at hr
  split at hr
  · simp only [den, Option.some.injEq] at h1
    rw [← h1] at hx
    exact fin_pure h hU hd (hx _ _ (none_ _ _)) rfl hr
  · obtain ⟨q, e1, e2⟩ := den_es h1
    rw [e2] at hx
    exact fin_pure h hU hd (hx _ _ (none_ _ _)) rfl hr
  · rename_i id off n c2 op
    obtain ⟨q, e1, e2⟩ := den_sl h1
    cases hb : Nat.beq n 0
    · rw [hb] at hr
      simp only [cond_false] at hr
      have hn : n ≠ 0 := fun e => by rw [e] at hb; cases hb
      cases hs : isSl ti.ty
      · rw [hs] at hr; exact run_fail hr
      · rw [hs] at hr
        simp only [Bool.not_true, cond_false] at hr
        have hsh := hti.shape
        rw [is_sl hs] at hsh
        simp only [TSh] at hsh
        replace hr := tyR_ok hT hr
        obtain ⟨te, hte, hr⟩ := hr
        replace hr := run_obj hr
        obtain ⟨ob, hob, hr⟩ := hr
        split at hr
        · rename_i e cs opn
          replace hr := run_bif hr
          obtain ⟨hin, hr⟩ := hr
          have hle := inside_le hin
          have hz0 : denL ρ m (rep n te.ty.zero) = some (List.replicate n (zc te.ty)).flatten := denL_rep (den_zero te.ty) n
          have hz1 : (rep n te.ty.zero).all HV.one = true := zero_one (.arr n te.ty)
          have hzl : (rep n te.ty.zero).length = n * te.ty.size := by rw [rep_length, zero_length]
          obtain ⟨b, s, vs, post, q1, q2, q4, q5⟩ := h.heap.put hob hz0 hz1 (k := off) (by omega)
          rw [q1] at e1; cases e1
          obtain ⟨it, hi, hz, hsz, _⟩ := hte.parts
          have hzc : (Builtin.zeroCells (pk te.ty (zc te.ty)).cells n).toList = (List.replicate n (zc te.ty)).flatten := by
            unfold Builtin.zeroCells; rw [modCells, pk_zero_cells]
          have hnl := denL_length hz0
          have hvl := denL_length q2
          have hst := run_storeCells_at P b off e (List.replicate n (zc te.ty)).flatten 0 (vs ++ post).toArray w q4 (by rw [List.size_toArray, List.length_append, hnl, hzl]; omega) (fun v hv => one_cells hz0 hz1 v hv)
          simp only [Nat.add_zero] at hst
          rw [e2] at hx
          have hrun : (Builtin.clear_ #[t] o.type #[.slice (some ⟨b, off, none⟩) n (c2 + bif op then s else 0)]).run P w = .ok (.tuple #[]) (w.setRow b (putV (vs ++ post) off (List.replicate n (zc te.ty)).flatten).toArray) := by
            obtain ⟨k, rfl⟩ : ∃ k, n = k + 1 := ⟨n - 1, by omega⟩
            have hst' : (storeCells ⟨b, off, none⟩ (Builtin.zeroCells (pk te.ty (zc te.ty)).cells (k + 1)).toList).run P w = .ok () (w.setRow b (putV (vs ++ post) off (List.replicate (k + 1) (zc te.ty)).flatten).toArray) := by rw [hzc]; exact hst
            simp [Builtin.clear_, run_underlying hsh, zeroValue, typeInfo, hi, hz, hst']
          exact fin_val h hd (hx _ _ hrun) (Mp.le_refl m) (ws0 := [.obj id (some (.cells e (putAt cs off (rep n te.ty.zero)) opn))]) q5 (fun y hy => by simp at hy; exact ⟨_, _, hy⟩) rfl (fun id hi => .inl (hU id hi)) hr
        · exact run_fail hr
    · rw [hb] at hr
      have hb := Nat.eq_of_beq_eq_true hb
      subst hb
      rw [e2] at hx
      exact fin_pure h hU hd (hx _ _ (none_ _ _)) rfl hr
  · exact run_fail hr
theorem run_convert_int {src dst : TypeId} {d : TypeDesc} {kd kx : IntKind} {n : Int} (hs : P.underlying src = some d) (hd : P.underlying dst = some (.int kd)) : (convert src dst (.int kx n)).run P w = .ok (.int kd (kd.wrap n)) w := by
  simp only [convert, Sem.run_bind, run_underlying hs, run_underlying hd, Result.andThen_ok, Conv.intToInt, Sem.run_pure]
theorem byteOf_ok {v : HV} {b : UInt8} {x : Value} (h : byteOf v = some b) (hv : den ρ m v = some x) : x = .int .u8 (b.toNat : Int) := by
  unfold byteOf at h
  split at h
  · rename_i n
    cases h
    obtain ⟨rfl, h1⟩ := den_int hv
    rw [inKind_iff, show IntKind.u8.min = 0 from rfl, show IntKind.u8.max = 255 from rfl] at h1
    simp only [IV.ev] at h1 ⊢
    rw [UInt8.toNat_ofNat', show ((n.toNat % 2 ^ 8 : Nat) : Int) = n by omega]
  · cases h
theorem bytesOf_ok : ∀ {cs : List HV} {bs : List UInt8} {xs : List Value}, bytesOf cs = some bs → denL ρ m cs = some xs → xs = bs.map fun b => Value.int .u8 (b.toNat : Int)
  | [], bs, xs, h, hd => by simp only [bytesOf] at h; cases h; simp only [denL] at hd; cases hd; rfl
  | v :: l, bs, xs, h, hd => by
    simp only [bytesOf] at h
    split at h
    · rename_i b bs' hb hbs
      cases h
      obtain ⟨x, ys, h1, h2, rfl⟩ := denL_cons hd
      rw [byteOf_ok hb h1, bytesOf_ok hbs h2]; rfl
    · cases h
theorem is_u8 {t : Ty} (h : isU8 t = true) : t = .int .u8 := by
  cases t <;> (try cases h)
  rename_i k
  cases k <;> first | rfl | cases h
theorem op_convert (hT : TysOk P Γ.tys) (hR : RngOk ρ Γ.R) (h : Rep P ρ N S H m a w) (hU : ∀ id, m id ≠ none → U id) (hd : ∀ d, o.dst = some d → d < N) (hf : ∀ j, fresh ≤ j → j < r.2 → ¬ U j) {s d : TypeId} {x : Operand} (ho : o.op = .convert s d x)
    (hr : (tyR Γ s fun tj => tyR Γ d fun ti => opdR x (evConv Γ fresh o tj ti)).run S H = some r) : o.wp P a w (After P ρ N U fresh S H m r) Q := by
  replace hr := tyR_ok hT hr
  obtain ⟨tj, htj, hr⟩ := hr
  replace hr := tyR_ok hT hr
  obtain ⟨ti, hti, hr⟩ := hr
  have hsh := hti.shape
  replace hr := opdR_ok h hr
  obtain ⟨v, h1, hr⟩ := hr
  have exec : ∀ z w', (convert s d (a.eval x)).run P w = .ok z w' → (execOp a.eval o).run P w = .ok (.value z) w' := by
    intro z w' hz
    simp only [execOp, ho, Sem.run_bind, hz, Result.andThen_ok, Sem.run_pure]
  unfold evConv at hr
  split at hr
  · rename_i k hty
    rw [hty] at hsh
    simp only [TSh] at hsh
    obtain ⟨ds, hds, _⟩ := htj.row
    unfold evConvI at hr
    split at hr
    · rename_i k' y
      replace hr := run_optR hr
      obtain ⟨z, hz, hr⟩ := hr
      obtain ⟨e1, e2⟩ := den_int h1
      obtain ⟨e3, e4⟩ := convI_ok hR hz
      exact fin_pure h hU hd (exec _ _ (by rw [e1, run_convert_int hds hsh, e3])) (den_int' e4) hr
    · exact run_fail hr
  · rename_i hty
    rw [hty] at hsh
    simp only [TSh] at hsh
    unfold evConvS at hr
    replace hr := run_bif hr
    obtain ⟨hsl, hr⟩ := hr
    have hsj := htj.shape
    rw [is_sl hsl] at hsj
    simp only [TSh] at hsj
    replace hr := tyR_ok hT hr
    obtain ⟨te, hte, hr⟩ := hr
    replace hr := run_bif hr
    obtain ⟨hu8, hr⟩ := hr
    have hse := hte.shape
    rw [is_u8 hu8] at hse
    simp only [TSh] at hse
    unfold elemsR at hr
    split at hr
    · simp only [den, Option.some.injEq] at h1
      refine fin_pure h hU hd (v := .string ⟨#[]⟩) (exec _ _ ?_) rfl hr
      rw [← h1]
      simp only [convert, Sem.run_bind, run_underlying hsj, run_underlying hsh, run_underlying hse, Result.andThen_ok, Conv.bytesToString, Sem.run_pure]
      rfl
    · obtain ⟨q, e1, e2⟩ := den_es h1
      refine fin_pure h hU hd (v := .string ⟨#[]⟩) (exec _ _ ?_) rfl hr
      rw [e2]
      exact run_convert_bytes_back w s d tj.el _ _ [] hsj hse hsh (fun j hj => by simp at hj)
    · rename_i id off n c op
      replace hr := run_obj (show (RT.obj id _).run S H = some r from hr)
      obtain ⟨ob, hob, hr⟩ := hr
      replace hr := run_optR hr
      obtain ⟨cs, hcs, hr⟩ := hr
      replace hr := run_bif hr
      obtain ⟨hb, hr⟩ := hr
      replace hr := run_optR hr
      obtain ⟨bs, hbs, hr⟩ := hr
      obtain ⟨b, s', vs, post, el, fr, q1, q2, q3, q4⟩ := (h.heap.objs id _ hob).rd hcs
      obtain ⟨q, e1, e2⟩ := den_sl h1
      rw [q1] at e1; cases e1
      have hdc := denL_cut off (n * 1) q2
      have hbv := bytesOf_ok hbs hdc
      have hlen : bs.length = n := by
        have := denL_length hdc
        rw [hbv, List.length_map, cut_length hb] at this
        omega
      refine fin_pure h hU hd (v := .string ⟨bs.toArray⟩) (exec _ _ ?_) rfl hr
      rw [e2, ← hlen]
      refine run_convert_bytes_back w s d tj.el _ _ bs hsj hse hsh fun j hj => ?_
      rw [Addr.add_mid, cell_of_row w b _ _ el fr q4]
      have hg : ((vs.drop off).take (n * 1))[j]? = some (.int .u8 (bs[j].toNat : Int)) := by rw [hbv]; simp [hj]
      rw [List.getElem?_take] at hg
      split at hg
      · rw [List.getElem?_drop] at hg
        have hlt := (List.getElem?_eq_some_iff.1 hg).1
        rw [List.getElem?_toArray, List.getElem?_append_left hlt]
        exact hg
      · cases hg
    · exact run_fail hr
    · exact run_fail hr
  · rename_i hty
    rw [hty] at hsh
    simp only [TSh] at hsh
    unfold evConvB at hr
    split at hr
    · rename_i bs
      replace hr := tyR_ok hT hr
      obtain ⟨te, hte, hr⟩ := hr
      replace hr := run_bif hr
      obtain ⟨hb, hr⟩ := hr
      simp only [Bool.and_eq_true] at hb
      have hsj := htj.shape
      rw [is_str hb.1.1] at hsj
      simp only [TSh] at hsj
      have hse := hte.shape
      rw [is_u8 hb.1.2] at hse
      simp only [TSh] at hse
      simp only [den, Option.some.injEq] at h1
      have hsz : (ByteArray.mk bs.toArray).size = bs.length := by simp [ByteArray.size]
      have hge := grownCap_ge w bs.length 0 ti.el
      have hrun := Lib.run_convert_string_bytes (P := P) w s d ti.el ⟨bs.toArray⟩ hsj hsh hse
      rw [hsz, h1] at hrun
      have hnx := dst_nx hr
      have hn := fresh_none hU (hf fresh (Nat.le_refl _) (by omega))
      obtain ⟨g1, g2⟩ := bytes_den (ρ := ρ) (m := m) bs
      have hcl : (Lib.bytesCells w ti.el ⟨bs.toArray⟩).toList = (bs.map fun b => Value.int .u8 (b.toNat : Int)) ++ List.replicate (grownCap w bs.length 0 ti.el - bs.length) (.int .u8 0) := by
        unfold Lib.bytesCells; rw [hsz]; simp
      have hcl' : Lib.bytesCells w ti.el ⟨bs.toArray⟩ = ((List.map (fun b : UInt8 => Value.int .u8 (b.toNat : Int)) bs) ++ List.replicate (grownCap w bs.length 0 ti.el - bs.length) (Value.int .u8 0)).toArray := by
        apply Array.toList_inj.1; rw [hcl]
      obtain ⟨fr, hfr, hold⟩ : ∃ fr, (Lib.bytesWorld w ti.el ⟨bs.toArray⟩).heap[w.heap.size]? = some (.cells (Lib.bytesCells w ti.el ⟨bs.toArray⟩) ti.el fr) ∧ ∀ k, k < w.heap.size → (Lib.bytesWorld w ti.el ⟨bs.toArray⟩).heap[k]? = w.heap[k]? := by
        unfold Lib.bytesWorld World.freeze
        have hnew := Go.heap_alloc_new w.drew (.cells (Lib.bytesCells w ti.el ⟨bs.toArray⟩) ti.el)
        split
        · exact ⟨_, hnew, fun k hk => Go.heap_alloc_old w.drew _ k hk⟩
        · simp only [Array.getElem?_modify, if_true]
          have hnew' : (w.drew.alloc (.cells (Lib.bytesCells w ti.el ⟨bs.toArray⟩) ti.el)).heap[w.heap.size]? = some (.cells (Lib.bytesCells w ti.el ⟨bs.toArray⟩) ti.el (0, 0)) := hnew
          refine ⟨_, by rw [hnew']; rfl, fun k hk => ?_⟩
          rw [if_neg (by omega)]
          exact Go.heap_alloc_old w.drew _ k hk
      have hrep : HRep P ρ (appH H [.obj fresh (some (.ro ti.el (bs.map fun b => .i .u8 (.lit b.toNat))))]) (m.set fresh w.heap.size (grownCap w bs.length 0 ti.el - bs.length)) (Lib.bytesWorld w ti.el ⟨bs.toArray⟩) := by
        refine h.heap.new hn hold (Nat.le_refl _) ?_ (by unfold Lib.bytesWorld World.freeze; split <;> exact ⟨rfl, rfl, rfl⟩)
        exact ⟨w.heap.size, _, _, List.replicate (grownCap w bs.length 0 ti.el - bs.length) (.int .u8 0), fr, Mp.set_same _ _ _ _, denL_mono (Mp.le_set hn) g1, g2, by rw [← hcl']; exact hfr⟩
      refine fin_val h hd (v := .slice (some ⟨w.heap.size, 0, none⟩) bs.length (grownCap w bs.length 0 ti.el)) (exec _ _ hrun) (Mp.le_set hn) hrep (fun y hy => by simp at hy; exact ⟨_, _, hy⟩) ?_ (dom_set hU (Nat.le_refl _) (Nat.lt_succ_self _)) hr
      simp only [den, Mp.set_same, cond_true]
      congr 2; omega
    · exact run_fail hr
  · exact run_fail hr
end
end Go.Proofs.YtehbbcdhahnkgaaGreat.Hm
