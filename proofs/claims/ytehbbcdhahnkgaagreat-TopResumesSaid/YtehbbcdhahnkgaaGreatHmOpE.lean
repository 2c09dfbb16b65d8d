/- The heap machine and the machine: appends. -/
import Derived.Test.YtehbbcdhahnkgaaGreatHmOpD
set_option linter.unusedVariables false
set_option linter.unusedSimpArgs false
namespace Go.Proofs.YtehbbcdhahnkgaaGreat.Hm
open Go
section
variable {P : Program} {Γ : Ctx} {ρ : En} {N : Nat} {S : Sl} {H : Hp} {m : Mp} {a : Act} {w : World} {o : Oper} {U : Nat → Prop} {fresh : Nat} {r : List Wr × Nat} {Q : Exit → Act → World → Prop}

def KindOk (P : Program) (str : Bool) (tx : TypeId) : Prop := match str with
  | true => P.underlying tx = some .string
  | false => ∃ e, P.underlying tx = some (.slice e)
theorem bytes_den (bs : List UInt8) : denL ρ m (bs.map fun b => .i .u8 (.lit b.toNat)) = some (bs.map fun b => Value.int .u8 (b.toNat : Int)) ∧ (bs.map fun b => HV.i .u8 (.lit b.toNat)).all HV.one = true := by
  induction bs with
  | nil => exact ⟨rfl, rfl⟩
  | cons b bs ih =>
    refine ⟨denL_cons' ?_ ih.1, by rw [List.map_cons, List.all_cons, ih.2]; rfl⟩
    refine den_int' (x := .lit _) ?_
    rw [inKind_iff, show IntKind.u8.min = 0 from rfl, show IntKind.u8.max = 255 from rfl]
    have := b.toNat_lt
    simp only [IV.ev]
    omega
theorem elemsR_ok (h : Rep P ρ N S H m a w) {str : Bool} {sz : Nat} {v : HV} {x : Value} {tx : TypeId} {k : List HV → Nat → RT} (hk : KindOk P str tx) (hv : den ρ m v = some x) (hr : (elemsR str sz v k).run S H = some r) :
    ∃ ys n news, denL ρ m ys = some news ∧ ys.all HV.one = true ∧ Src P sz tx x n news w ∧ ys.length = n * sz ∧ (k ys n).run S H = some r := by
  unfold elemsR at hr
  split at hr
  · cases str
    · obtain ⟨e, he⟩ := hk
      simp only [den, Option.some.injEq] at hv
      subst hv
      exact ⟨[], 0, [], rfl, rfl, Src.ofNil w he 0, by simp, hr⟩
    · exact run_fail hr
  · cases str
    · obtain ⟨e, he⟩ := hk
      obtain ⟨q, e1, rfl⟩ := den_es hv
      exact ⟨[], 0, [], rfl, rfl, Src.ofSlice w he _ 0 _ [] (by simp) (fun j u hu => by simp at hu) (fun u hu => by simp at hu), by simp, hr⟩
    · exact run_fail hr
  · rename_i id off n c op
    cases str
    · obtain ⟨e, he⟩ := hk
      replace hr := run_obj (show (RT.obj id _).run S H = some r from hr)
      obtain ⟨ob, hob, hr⟩ := hr
      replace hr := run_optR hr
      obtain ⟨cs, hcs, hr⟩ := hr
      replace hr := run_bif hr
      obtain ⟨hb, hr⟩ := hr
      obtain ⟨b, s, vs, post, el, fr, q1, q2, q3, q4⟩ := (h.heap.objs id _ hob).rd hcs
      obtain ⟨q, e1, rfl⟩ := den_sl hv
      rw [q1] at e1; cases e1
      have hle := inside_le hb
      have hvl := denL_length q2
      have hcl := cut_length hb
      have hd := denL_cut off (n * sz) q2
      refine ⟨_, n, _, hd, all_cut _ _ q3, Src.ofSlice w he _ n _ _ (by rw [denL_length hd, hcl]) (fun j u hu => ?_) (one_cells hd (all_cut _ _ q3)), hcl, hr⟩
      rw [Addr.add_mid, cell_of_row w b _ _ el fr q4]
      rw [List.getElem?_take] at hu
      split at hu
      · rw [List.getElem?_drop] at hu
        have hlt := (List.getElem?_eq_some_iff.1 hu).1
        rw [List.getElem?_toArray, List.getElem?_append_left hlt]
        exact hu
      · cases hu
    · exact run_fail hr
  · rename_i bs
    replace hr := run_bif hr
    obtain ⟨hb, hr⟩ := hr
    simp only [Bool.and_eq_true] at hb
    obtain ⟨rfl, hb⟩ := hb
    have hb := Nat.eq_of_beq_eq_true hb
    subst hb
    simp only [den, Option.some.injEq] at hv
    subst hv
    obtain ⟨q1, q2⟩ := bytes_den (ρ := ρ) (m := m) bs
    have hsz : (⟨bs.toArray⟩ : ByteArray).size = bs.length := by show bs.toArray.size = _; simp
    have hsrc := Src.ofString (P := P) w (show P.underlying tx = some .string from hk) ⟨bs.toArray⟩
    rw [hsz] at hsrc
    exact ⟨_, bs.length, _, q1, q2, by simpa [byteCells] using hsrc, by simp, hr⟩
  · exact run_fail hr

theorem HRep.moved (h : HRep P ρ H m w) {id fr b s s' : Nat} {ob ob' : Ob} {w' : World} (hi : H id = some ob) (hq : m id = some (b, s)) (hn : m fr = none) (hw : ∀ k, k ≠ b → w'.heap[k]? = w.heap[k]?) (ho : OR P ρ (m.set fr b s') w' fr ob') (hx : Wo w w') (hf : ob.fixed = false) :
    HRep P ρ (upd (upd H id none) fr (some ob')) (m.set fr b s') w' := by
  have at_ : ∀ i o1, i ≠ fr → upd (upd H id none) fr (some ob') i = some o1 → i ≠ id ∧ H i = some o1 := by
    intro i o1 e hi1
    rw [upd_ne _ _ e] at hi1
    by_cases e2 : i = id
    · subst e2; rw [upd_same] at hi1; cases hi1
    · rw [upd_ne _ _ e2] at hi1; exact ⟨e2, hi1⟩
  refine ⟨fun i o1 h1 => ?_, fun i j o1 o2 q q' hne h1 h2 hq1 hq2 => ?_, ?_, fun i o1 q h1 h2 h3 => ?_⟩
  case refine_3 =>
    obtain ⟨q, x, h1, h2⟩ := ho.block
    rw [Mp.set_same] at h1; cases h1
    exact h.keep_write hi hf hq hw ⟨x, h2⟩ hx
  case refine_4 =>
    by_cases e : i = fr
    · subst e
      rw [Mp.set_same] at h3; cases h3
      exact h.off id ob (b, s) hi hf hq
    · obtain ⟨e2, h4⟩ := at_ i o1 e h1
      exact h.off i o1 q h4 h2 (by simpa [Mp.set, e] using h3)
  · by_cases e : i = fr
    · subst e; rw [upd_same] at h1; cases h1; exact ho
    · obtain ⟨e2, h3⟩ := at_ i o1 e h1
      refine (h.objs i o1 h3).mono (Mp.le_set hn) fun q hq' => hw _ ?_
      exact h.inj i id o1 ob q (b, s) e2 h3 hi hq' hq
  · by_cases e1 : i = fr
    · subst e1
      have e2 : j ≠ i := fun e => hne e.symm
      obtain ⟨e3, h3⟩ := at_ j o2 e2 h2
      rw [Mp.set_same] at hq1; cases hq1
      have hq2' : m j = some q' := by simpa [Mp.set, e2] using hq2
      exact (h.inj j id o2 ob q' (b, s) e3 h3 hi hq2' hq).symm
    · obtain ⟨e3, h3⟩ := at_ i o1 e1 h1
      have hq1' : m i = some q := by simpa [Mp.set, e1] using hq1
      by_cases e2 : j = fr
      · subst e2
        rw [Mp.set_same] at hq2; cases hq2
        exact h.inj i id o1 ob q (b, s) e3 h3 hi hq1' hq
      · obtain ⟨e4, h4⟩ := at_ j o2 e2 h2
        have hq2' : m j = some q' := by simpa [Mp.set, e2] using hq2
        exact h.inj i j o1 o2 q q' hne h3 h4 hq1' hq2'

theorem run_append_room (t tx ty e : TypeId) (i : TypeInfo) (ht : P.underlying t = some (.slice e)) (hi : P.info? e = some i) {b off sLen sCap el : Nat} {x : Value} {n : Nat} {news arr : List Value} (hs : Src P i.size tx x n news w)
    (hroom : sLen + n ≤ sCap) (hg : w.heap[b]? = some (.cells arr.toArray el (0, 0))) (hl : off + sLen * i.size + news.length ≤ arr.length) :
    (Builtin.append_ #[t, tx] ty #[.slice (some ⟨b, off, none⟩) sLen sCap, x]).run P w = .ok (.slice (some ⟨b, off, none⟩) (sLen + n) sCap) (w.setRow b (putV arr (off + sLen * i.size) news).toArray) := by
  have hst := run_storeCells_at P b (off + sLen * i.size) el news 0 arr.toArray w hg (by simpa using hl) (fun v hv => hs.one v hv)
  simp only [Nat.add_zero] at hst
  have hst' : (storeCells ⟨b, off + sLen * i.size, none⟩ news).run P w = .ok () (w.setRow b (putV arr (off + sLen * i.size) news).toArray) := hst
  rcases hs.kind with ⟨e', hk⟩ | hk <;> simp [Builtin.append_, run_underlying ht, run_underlying hk, sizeOf, typeInfo, hi, hs.len, hroom, hs.cells, Addr.add_lit, hst']
theorem run_append_none (t tx ty e : TypeId) (i : TypeInfo) (ht : P.underlying t = some (.slice e)) (hi : P.info? e = some i) {A : Option Addr} {sLen sCap : Nat} {x : Value} {news : List Value} (hs : Src P i.size tx x 0 news w)
    (hroom : sLen ≤ sCap) : (Builtin.append_ #[t, tx] ty #[.slice A sLen sCap, x]).run P w = .ok (.slice A sLen sCap) w := by
  have hn : news = [] := List.eq_nil_of_length_eq_zero (by rw [hs.newsLen]; omega)
  have hc := hs.cells
  rw [hn] at hc
  cases A <;> (rcases hs.kind with ⟨e', hk⟩ | hk <;> simp [Builtin.append_, run_underlying ht, run_underlying hk, sizeOf, typeInfo, hi, hs.len, hroom, hc, storeCells])
theorem zeroCells_len (t : Ty) (k : Nat) : (Builtin.zeroCells (pk t (zc t)).cells k).toList.length = k * t.size := by
  unfold Builtin.zeroCells
  rw [modCells, pk_zero_cells, ← rep_eq, rep_length, denL_length (den_zero (ρ := En.any) (m := fun _ => none) t), zero_length]
theorem room_ok {n bytes : Nat} (h : room n bytes = true) : n * bytes ≤ 140737488355328 := of_decide_eq_true h
theorem grow_ok (h : Rep P ρ N S H m a w) (hU : ∀ id, m id ≠ none → U id) (hd : ∀ d, o.dst = some d → d < N) (hf : ∀ j, fresh ≤ j → j < r.2 → ¬ U j) {tx ty el : TypeId} {te : TI} (ht : P.underlying tx = some (.slice el)) (hte : TOk P el te)
    {A : Option Addr} {sLen sCap : Nat} {olds news : List Value} {cs : List HV} {x : Value} {n : Nat} {ws : List Wr}
    (hold : (Builtin.firstCells te.ty.size sLen (.slice A sLen sCap)).run P w.drew = .ok olds.toArray w.drew) (hs : Src P te.ty.size ty x n news w) (hg : sCap < sLen + n)
    (hcs : denL ρ m cs = some (olds ++ news)) (h1 : cs.all HV.one = true) (hlen : cs.length = (sLen + n) * te.ty.size)
    (hx : ∀ r w', (Builtin.append_ #[tx, ty] o.type #[.slice A sLen sCap, x]).run P w = .ok r w' → (execOp a.eval o).run P w = .ok (.value r) w')
    (hw : objW ws) (hH : HRep P ρ (appH H ws) m w)
    (hr : (grow fresh o el te.bytes cs (sLen + n) ws).run S H = some r) : o.wp P a w (After P ρ N U fresh S H m r) Q := by
  unfold grow at hr
  replace hr := run_bif hr
  obtain ⟨hb, hr⟩ := hr
  have hb := room_ok hb
  obtain ⟨i, hi, hz, hsz, hby⟩ := hte.parts
  have hwide := hte.wide
  have h63 : sLen + n ≤ 9223372036854775807 := by
    have := Nat.mul_le_mul_left (sLen + n) hwide
    omega
  have hfit := growslice_fits (need := sLen + n) (old := sCap) (bytes := te.bytes) hg hb
  rw [← hsz] at hold hs
  rw [← hby] at hfit
  have hrun := run_append_grow_src w tx ty o.type el i _ ht hi hz A sLen sCap olds hold x n news hs hg (by omega) hfit
  have hnx := dst_nx hr
  have hn := fresh_none hU (hf fresh (Nat.le_refl _) (by omega))
  have hge := grownCap_ge w (sLen + n) sCap el
  have hrep : HRep P ρ (appH H (ws ++ [.obj fresh (some (.cells el cs true))])) (m.set fresh w.heap.size (grownCap w (sLen + n) sCap el - (sLen + n))) (w.drew.alloc (.cells ((olds ++ news).toArray ++ Builtin.zeroCells (pk te.ty (zc te.ty)).cells (grownCap w (sLen + n) sCap el - (sLen + n))) el)) := by
    rw [appH_append]
    refine hH.new hn (fun k hk => Go.heap_alloc_old w.drew _ k hk) (Nat.le_refl _) ?_ ⟨rfl, rfl, rfl⟩
    refine ⟨w.heap.size, _, olds ++ news, (Builtin.zeroCells (pk te.ty (zc te.ty)).cells (grownCap w (sLen + n) sCap el - (sLen + n))).toList, Mp.set_same _ _ _ _, denL_mono (Mp.le_set hn) hcs, h1, ?_, ?_, (fun e => by cases e), .inr fun k hk => ?_⟩
    · have e : ((olds ++ news) ++ (Builtin.zeroCells (pk te.ty (zc te.ty)).cells (grownCap w (sLen + n) sCap el - (sLen + n))).toList).toArray = (olds ++ news).toArray ++ Builtin.zeroCells (pk te.ty (zc te.ty)).cells (grownCap w (sLen + n) sCap el - (sLen + n)) := by
        apply Array.toList_inj.1; simp
      rw [e]
      exact Go.heap_alloc_new w.drew _
    · rw [zeroCells_len, hte.cells]
    · rw [hte.cells, hlen] at hk
      have hk := Nat.le_of_mul_le_mul_right hk hte.pos
      have hcm := grownCap_le_maxLen w (sLen + n) sCap el (by unfold maxLen; omega)
      omega
  refine fin_val h hd (v := .slice (some ⟨w.heap.size, 0, none⟩) (sLen + n) (grownCap w (sLen + n) sCap el)) (hx _ _ hrun) (Mp.le_set hn) hrep ?_ ?_ (dom_set hU (Nat.le_refl _) (Nat.lt_succ_self _)) hr
  · intro y hy
    rcases List.mem_append.1 hy with hy | hy
    · exact hw y hy
    · simp at hy; exact ⟨_, _, hy⟩
  · simp only [den, Mp.set_same, cond_true]
    congr 2; omega
theorem appendR_ok (h : Rep P ρ N S H m a w) (hU : ∀ id, m id ≠ none → U id) (hd : ∀ d, o.dst = some d → d < N) (hf : ∀ j, fresh ≤ j → j < r.2 → ¬ U j) {tx ty el : TypeId} {te : TI} (ht : P.underlying tx = some (.slice el)) (hte : TOk P el te)
    {v : HV} {xv x : Value} {n2 : Nat} {ys : List HV} {news : List Value} (hv : den ρ m v = some xv) (hys : denL ρ m ys = some news) (hy1 : ys.all HV.one = true) (hs : Src P te.ty.size ty x n2 news w) (hyl : ys.length = n2 * te.ty.size)
    (hx : ∀ r w', (Builtin.append_ #[tx, ty] o.type #[xv, x]).run P w = .ok r w' → (execOp a.eval o).run P w = .ok (.value r) w')
    (hr : (appendR fresh o el te.ty.size te.bytes v ys n2).run S H = some r) : o.wp P a w (After P ρ N U fresh S H m r) Q := by
  obtain ⟨i, hi, hz, hsz, hby⟩ := hte.parts
  have hs' := hs
  rw [← hsz] at hs'
  unfold appendR at hr
  split at hr
  · simp only [den, Option.some.injEq] at hv
    subst hv
    cases hb : Nat.beq n2 0
    · rw [hb] at hr
      simp only [cond_false] at hr
      have h0 : n2 ≠ 0 := fun e => by rw [e] at hb; cases hb
      have e : n2 = 0 + n2 := by omega
      rw [e] at hr
      exact grow_ok (A := none) (sLen := 0) (sCap := 0) (olds := []) h hU hd hf ht hte (run_firstCells_none w.drew _ 0 0 0) hs (by omega) (by simpa using hys) hy1 (by rw [Nat.zero_add]; exact hyl) hx (ws := []) (fun y hy => by simp at hy) (show HRep P ρ (appH H []) m w from h.heap) hr
    · rw [hb] at hr
      have hb := Nat.eq_of_beq_eq_true hb
      subst hb
      exact fin_pure h hU hd (hx _ _ (run_append_none tx ty o.type el i ht hi hs' (Nat.le_refl 0))) rfl hr
  · obtain ⟨q, e1, rfl⟩ := den_es hv
    cases hb : Nat.beq n2 0
    · rw [hb] at hr; exact run_fail hr
    · rw [hb] at hr
      have hb := Nat.eq_of_beq_eq_true hb
      subst hb
      exact fin_pure h hU hd (hx _ _ (run_append_none tx ty o.type el i ht hi hs' (Nat.zero_le _))) hv hr
  · rename_i id off n c op
    obtain ⟨q, e1, rfl⟩ := den_sl hv
    obtain ⟨sl, hsl⟩ : ∃ sl, sl = bif op then q.2 else 0 := ⟨_, rfl⟩
    rw [← hsl] at hx
    cases hb : (Nat.beq n2 0 && Nat.ble n c)
    · rw [hb] at hr
      simp only [cond_false] at hr
      replace hr := run_obj hr
      obtain ⟨ob, hob, hr⟩ := hr
      split at hr
      · rename_i e cs opn
        obtain ⟨b, s, vs, post, q1, q2, q3, q4, q5, q6, q7⟩ := h.heap.objs id _ hob
        rw [q1] at e1; cases e1
        have hvl := denL_length q2
        have hnl := denL_length hys
        cases hc : Nat.ble (n + n2) c
        · rw [hc] at hr
          simp only [cond_false] at hr
          have hc : ¬ n + n2 ≤ c := fun hl => by rw [Nat.ble_eq_true_of_le hl] at hc; cases hc
          replace hr := run_bif hr
          obtain ⟨hin, hr⟩ := hr
          have hle := inside_le hin
          have hold : (Builtin.firstCells te.ty.size n (.slice (some ⟨b, off, none⟩) n (c + sl))).run P w.drew = .ok ((vs.drop off).take (n * te.ty.size)).toArray w.drew := by
            refine run_firstCells_some w.drew _ n _ n _ _ (by simp only [List.length_take, List.length_drop]; omega) fun j u hu => ?_
            rw [Addr.add_mid]
            show w.cell? _ = _
            rw [cell_of_row w b _ _ e (0, 0) q4]
            rw [List.getElem?_take] at hu
            split at hu
            · rw [List.getElem?_drop] at hu
              have hlt := (List.getElem?_eq_some_iff.1 hu).1
              rw [List.getElem?_toArray, List.getElem?_append_left hlt]
              exact hu
            · cases hu
          cases hopn : (op && opn)
          · rw [hopn] at hr
            simp only [cond_false] at hr
            have hsl0 : sl = 0 := by
              rw [hsl]
              cases op with
              | false => rfl
              | true => simp only [Bool.true_and] at hopn; exact q6 hopn
            exact grow_ok h hU hd hf ht hte hold hs (by omega) (denL_append (denL_cut _ _ q2) hys) (by rw [List.all_append, all_cut _ _ q3, hy1]; rfl) (by rw [List.length_append, hyl, cutAt, List.length_take, List.length_drop, Nat.add_mul]; omega) hx (ws := []) (fun y hy => by simp at hy) (show HRep P ρ (appH H []) m w from h.heap) hr
          · rw [hopn] at hr
            simp only [cond_true] at hr
            replace hr := run_bif hr
            obtain ⟨hbb, hr⟩ := hr
            simp only [Bool.and_eq_true] at hbb hopn
            obtain ⟨⟨⟨b1, b2⟩, b3⟩, b4⟩ := hbb
            have b1 := Nat.eq_of_beq_eq_true b1
            have b2 := Nat.eq_of_beq_eq_true b2
            have b3 := Nat.eq_of_beq_eq_true b3
            have b4 := Nat.eq_of_beq_eq_true b4
            obtain ⟨rfl, rfl⟩ := hopn
            subst b1; subst b2; subst b4
            simp only [cond_true] at hsl
            subst hsl
            have hH : HRep P ρ (appH H [.obj id none]) m w := h.heap.kill id
            have htk : (vs.drop 0).take (n * te.ty.size) = vs := by rw [List.drop_zero, List.take_of_length_le (by omega)]
            by_cases hroom : n + n2 ≤ n + sl
            · have hr0 := hr
              unfold grow at hr
              replace hr := run_bif hr
              obtain ⟨_, hr⟩ := hr
              have hnx := dst_nx hr
              have hfn := fresh_none hU (hf fresh (Nat.le_refl _) (by omega))
              have hcel := hte.cells
              have hpl : news.length ≤ post.length := by
                rw [hnl, hyl, q5, hcel]
                exact Nat.mul_le_mul_right _ (by omega)
              have hrun := run_append_room tx ty o.type e i ht hi (off := 0) (sLen := n) (sCap := n + sl) hs' hroom q4 (by rw [hsz, List.length_append]; omega)
              have hput : putV (vs ++ post) (0 + n * i.size) news = (vs ++ news) ++ post.drop news.length := by
                unfold putV
                rw [hsz, Nat.zero_add, b3, ← hvl, List.take_left' rfl, List.drop_append, List.drop_of_length_le (by omega), List.nil_append, Nat.add_sub_cancel_left]
              rw [hput] at hrun
              have hrep := h.heap.moved (fr := fresh) (s' := sl - n2) (ob' := .cells e (cs ++ ys) true) (w' := w.setRow b ((vs ++ news) ++ post.drop news.length).toArray) hob q1 hfn (fun k hk => Go.setRow_other w b k _ hk)
                ⟨b, sl - n2, vs ++ news, post.drop news.length, Mp.set_same _ _ _ _, denL_mono (Mp.le_set hfn) (denL_append q2 hys), by rw [List.all_append, q3, hy1]; rfl, Go.setRow_heap w b _ _ e (0, 0) q4, by rw [List.length_drop, q5, hnl, hyl, hcel, Nat.sub_mul], (fun e => by cases e), q7.elim (fun e => .inl (by omega)) fun q7 => .inr fun k hk => by
                  rw [hcel, List.length_append, hyl] at hk
                  rw [hcel] at q7
                  by_cases hkn : k ≤ n2
                  · have := q7 0 (by omega); omega
                  · have := q7 (k - n2) (by rw [Nat.sub_mul]; omega); omega⟩ (by unfold World.setRow; first | exact ⟨rfl, rfl, rfl⟩ | (split <;> exact ⟨rfl, rfl, rfl⟩)) rfl
              refine fin_val h hd (v := .slice (some ⟨b, 0, none⟩) (n + n2) (n + sl)) (hx _ _ hrun) (Mp.le_set hfn) (ws0 := [Wr.obj id none] ++ [Wr.obj fresh (some (Ob.cells e (cs ++ ys) true))]) (show HRep P ρ (appH H ([Wr.obj id none] ++ [Wr.obj fresh (some (Ob.cells e (cs ++ ys) true))])) _ _ from hrep) ?_ ?_ (dom_set hU (Nat.le_refl _) (Nat.lt_succ_self _)) hr
              · intro y hy
                simp at hy
                rcases hy with rfl | rfl <;> exact ⟨_, _, rfl⟩
              · simp only [den, Mp.set_same, cond_true]
                congr 2; omega
            · rw [htk] at hold
              exact grow_ok h hU hd hf ht hte hold hs (by omega) (denL_append q2 hys) (by rw [List.all_append, q3, hy1]; rfl) (by rw [List.length_append, hyl, Nat.add_mul, ← b3]) hx (fun y hy => by simp at hy; exact ⟨_, _, hy⟩) hH hr
        · rw [hc] at hr
          simp only [cond_true] at hr
          have hc := Nat.le_of_ble_eq_true hc
          replace hr := run_bif hr
          obtain ⟨hbb, hr⟩ := hr
          simp only [Bool.and_eq_true] at hbb
          have hle := inside_le hbb.1
          obtain ⟨b', s', vs', post', w1, w2, w3, w4⟩ := h.heap.put hob hys hy1 (k := off + n * te.ty.size) (by omega)
          rw [q1] at w1; cases w1
          rw [q2] at w2; cases w2
          have hrun := run_append_room tx ty o.type el i ht hi (off := off) (sLen := n) (sCap := c + sl) hs' (by omega) w3 (by rw [hsz, List.length_append, hnl]; omega)
          rw [hsz] at hrun
          refine fin_val h hd (hx _ _ hrun) (Mp.le_refl m) (ws0 := [.obj id (some (.cells e (putAt cs (off + n * te.ty.size) ys) opn))]) w4 (fun y hy => by simp at hy; exact ⟨_, _, hy⟩) ?_ (fun id hi => .inl (hU id hi)) hr
          simp only [den, q1, ← hsl]
      · exact run_fail hr
    · rw [hb] at hr
      simp only [Bool.and_eq_true] at hb
      have hb1 := Nat.eq_of_beq_eq_true hb.1
      have hb2 := Nat.le_of_ble_eq_true hb.2
      subst hb1
      refine fin_pure h hU hd (hx _ _ (run_append_none tx ty o.type el i ht hi hs' (by omega))) ?_ hr
      simp only [den, e1, ← hsl]
  · exact run_fail hr
end
end Go.Proofs.YtehbbcdhahnkgaaGreat.Hm
