/- The ghost machine: an evaluator of the program's text over plain data, and its soundness. -/
import Derived.Test.YtehbbcdhahnkgaaGreatHmQ
import Derived.MapKept
set_option linter.unusedVariables false
set_option linter.unusedSimpArgs false
namespace Go.Proofs.YtehbbcdhahnkgaaGreat.Hm
open Go
section
variable {P : Program} {Γ : Ctx} {ρ : En} {N : Nat} {S : Sl} {H : Hp} {m : Mp} {a : Act} {w : World} {o : Oper} {U : Nat → Prop} {fresh : Nat} {r : List Wr × Nat} {Q : Exit → Act → World → Prop}

def KindOk (P : Program) (str : Bool) (tx : TypeId) : Prop := match str with
 | true => P.underlying tx = some .string
 | false => ∃ e, P.underlying tx = some (.slice e)
theorem bytes_den (bs : List UInt8) : denL ρ m (bs.map fun b => .i .u8 (.lit b.toNat)) = some (bs.map fun b => Value.int .u8 (b.toNat : Int)) ∧ (bs.map fun b => HV.i .u8 (.lit b.toNat)).all HV.one = true := by
 induction bs with
 | nil => exact ⟨rfl, rfl⟩
 | cons b bs ih =>
  refine ⟨denL_cons' ?_ ih.1, by rw [List.map_cons, List.all_cons, ih.2]; rfl⟩
  refine den_int' (x := .lit _) ?_
  rw [inKind_iff, show IntKind.u8.min = 0 from rfl, show IntKind.u8.max = 255 from rfl]
  have := b.toNat_lt
  simp only [IV.ev]
  omega
theorem elemsR_ok (h : Rep P ρ N S H m a w) {str : Bool} {sz : Nat} {v : HV} {x : Value} {tx : TypeId} {k : List HV → Nat → RT} (hk : KindOk P str tx) (hv : den ρ m v = some x) (hr : (elemsR str sz v k).run S H = some r) :
  ∃ ys n news, denL ρ m ys = some news ∧ ys.all HV.one = true ∧ Src P sz tx x n news w ∧ ys.length = n * sz ∧ (k ys n).run S H = some r := by
 unfold elemsR at hr
 split at hr
 ·cases str
  ·obtain ⟨e, he⟩ := hk
   simp only [den, Option.some.injEq] at hv
   subst hv
   exact ⟨[], 0, [], rfl, rfl, Src.ofNil w he 0, by simp, hr⟩
  ·exact run_fail hr
 ·cases str
  ·obtain ⟨e, he⟩ := hk
   obtain ⟨q, e1, rfl⟩ := den_es hv
   exact ⟨[], 0, [], rfl, rfl, Src.ofSlice w he _ 0 _ [] (by simp) (fun j u hu => by simp at hu) (fun u hu => by simp at hu), by simp, hr⟩
  ·exact run_fail hr
 ·rename_i id off n c op
  cases str
  ·obtain ⟨e, he⟩ := hk
   replace hr := run_obj (show (RT.obj id _).run S H = some r from hr)
   obtain ⟨ob, hob, hr⟩ := hr
   replace hr := run_optR hr
   obtain ⟨cs, hcs, hr⟩ := hr
   replace hr := run_bif hr
   obtain ⟨hb, hr⟩ := hr
   obtain ⟨b, s, vs, post, el, fr, q1, q2, q3, q4⟩ := (h.heap.objs id _ hob).rd hcs
   obtain ⟨q, e1, rfl⟩ := den_sl hv
   rw [q1] at e1; cases e1
   have hle := inside_le hb
   have hvl := denL_length q2
   have hcl := cut_length hb
   have hd := denL_cut off (n * sz) q2
   refine ⟨_, n, _, hd, all_cut _ _ q3, Src.ofSlice w he _ n _ _ (by rw [denL_length hd, hcl]) (fun j u hu => ?_) (one_cells hd (all_cut _ _ q3)), hcl, hr⟩
   rw [Addr.add_mid, cell_of_row w b _ _ el fr q4]
   rw [List.getElem?_take] at hu
   split at hu
   ·rw [List.getElem?_drop] at hu
    have hlt := (List.getElem?_eq_some_iff.1 hu).1
    rw [List.getElem?_toArray, List.getElem?_append_left hlt]
    exact hu
   ·cases hu
  ·exact run_fail hr
 ·rename_i bs
  replace hr := run_bif hr
  obtain ⟨hb, hr⟩ := hr
  simp only [Bool.and_eq_true] at hb
  obtain ⟨rfl, hb⟩ := hb
  have hb := Nat.eq_of_beq_eq_true hb
  subst hb
  simp only [den, Option.some.injEq] at hv
  subst hv
  obtain ⟨q1, q2⟩ := bytes_den (ρ := ρ) (m := m) bs
  have hsz : (⟨bs.toArray⟩ : ByteArray).size = bs.length := by show bs.toArray.size = _; simp
  have hsrc := Src.ofString (P := P) w (show P.underlying tx = some .string from hk) ⟨bs.toArray⟩
  rw [hsz] at hsrc
  exact ⟨_, bs.length, _, q1, q2, by simpa [byteCells] using hsrc, by simp, hr⟩
 ·exact run_fail hr

theorem HRep.moved (h : HRep P ρ H m w) {id fr b s s' : Nat} {ob ob' : Ob} {w' : World} (hi : H id = some ob) (hq : m id = some (b, s)) (hn : m fr = none) (hw : ∀ k, k ≠ b → w'.heap[k]? = w.heap[k]?) (ho : OR P ρ (m.set fr b s') w' fr ob') (hx : Wo w w') (hf : ob.fixed = false) :
  HRep P ρ (upd (upd H id none) fr (some ob')) (m.set fr b s') w' := by
 have at_ : ∀ i o1, i ≠ fr → upd (upd H id none) fr (some ob') i = some o1 → i ≠ id ∧ H i = some o1 := by
  intro i o1 e hi1
  rw [upd_ne _ _ e] at hi1
  by_cases e2 : i = id
  ·subst e2; rw [upd_same] at hi1; cases hi1
  ·rw [upd_ne _ _ e2] at hi1; exact ⟨e2, hi1⟩
 refine ⟨fun i o1 h1 => ?_, fun i j o1 o2 q q' hne h1 h2 hq1 hq2 => ?_, ?_, fun i o1 q h1 h2 h3 => ?_⟩
 case refine_3 =>
  obtain ⟨q, x, h1, h2⟩ := ho.block
  rw [Mp.set_same] at h1; cases h1
  exact h.keep_write hi hf hq hw ⟨x, h2⟩ hx
 case refine_4 =>
  by_cases e : i = fr
  ·subst e
   rw [Mp.set_same] at h3; cases h3
   exact h.off id ob (b, s) hi hf hq
  ·obtain ⟨e2, h4⟩ := at_ i o1 e h1
   exact h.off i o1 q h4 h2 (by simpa [Mp.set, e] using h3)
 ·by_cases e : i = fr
  ·subst e; rw [upd_same] at h1; cases h1; exact ho
  ·obtain ⟨e2, h3⟩ := at_ i o1 e h1
   refine (h.objs i o1 h3).mono (Mp.le_set hn) fun q hq' => hw _ ?_
   exact h.inj i id o1 ob q (b, s) e2 h3 hi hq' hq
 ·by_cases e1 : i = fr
  ·subst e1
   have e2 : j ≠ i := fun e => hne e.symm
   obtain ⟨e3, h3⟩ := at_ j o2 e2 h2
   rw [Mp.set_same] at hq1; cases hq1
   have hq2' : m j = some q' := by simpa [Mp.set, e2] using hq2
   exact (h.inj j id o2 ob q' (b, s) e3 h3 hi hq2' hq).symm
  ·obtain ⟨e3, h3⟩ := at_ i o1 e1 h1
   have hq1' : m i = some q := by simpa [Mp.set, e1] using hq1
   by_cases e2 : j = fr
   ·subst e2
    rw [Mp.set_same] at hq2; cases hq2
    exact h.inj i id o1 ob q (b, s) e3 h3 hi hq1' hq
   ·obtain ⟨e4, h4⟩ := at_ j o2 e2 h2
    have hq2' : m j = some q' := by simpa [Mp.set, e2] using hq2
    exact h.inj i j o1 o2 q q' hne h3 h4 hq1' hq2'

theorem run_append_room (t tx ty e : TypeId) (i : TypeInfo) (ht : P.underlying t = some (.slice e)) (hi : P.info? e = some i) {b off sLen sCap el : Nat} {x : Value} {n : Nat} {news arr : List Value} (hs : Src P i.size tx x n news w)
  (hroom : sLen + n ≤ sCap) (hg : w.heap[b]? = some (.cells arr.toArray el (0, 0))) (hl : off + sLen * i.size + news.length ≤ arr.length) :
  (Builtin.append_ #[t, tx] ty #[.slice (some ⟨b, off, none⟩) sLen sCap, x]).run P w = .ok (.slice (some ⟨b, off, none⟩) (sLen + n) sCap) (w.setRow b (putV arr (off + sLen * i.size) news).toArray) := by
 have hst := run_storeCells_at P b (off + sLen * i.size) el news 0 arr.toArray w hg (by simpa using hl) (fun v hv => hs.one v hv)
 simp only [Nat.add_zero] at hst
 have hst' : (storeCells ⟨b, off + sLen * i.size, none⟩ news).run P w = .ok () (w.setRow b (putV arr (off + sLen * i.size) news).toArray) := hst
 rcases hs.kind with ⟨e', hk⟩ | hk <;> simp [Builtin.append_, run_underlying ht, run_underlying hk, sizeOf, typeInfo, hi, hs.len, hroom, hs.cells, Addr.add_lit, hst']
theorem run_append_none (t tx ty e : TypeId) (i : TypeInfo) (ht : P.underlying t = some (.slice e)) (hi : P.info? e = some i) {A : Option Addr} {sLen sCap : Nat} {x : Value} {news : List Value} (hs : Src P i.size tx x 0 news w)
  (hroom : sLen ≤ sCap) : (Builtin.append_ #[t, tx] ty #[.slice A sLen sCap, x]).run P w = .ok (.slice A sLen sCap) w := by
 have hn : news = [] := List.eq_nil_of_length_eq_zero (by rw [hs.newsLen]; omega)
 have hc := hs.cells
 rw [hn] at hc
 cases A <;> (rcases hs.kind with ⟨e', hk⟩ | hk <;> simp [Builtin.append_, run_underlying ht, run_underlying hk, sizeOf, typeInfo, hi, hs.len, hroom, hc, storeCells])
theorem zeroCells_len (t : Ty) (k : Nat) : (Builtin.zeroCells (pk t (zc t)).cells k).toList.length = k * t.size := by
 unfold Builtin.zeroCells
 rw [modCells, pk_zero_cells, ← rep_eq, rep_length, denL_length (den_zero (ρ := En.any) (m := fun _ => none) t), zero_length]
theorem room_ok {n bytes : Nat} (h : room n bytes = true) : n * bytes ≤ 140737488355328 := of_decide_eq_true h
theorem grow_ok (h : Rep P ρ N S H m a w) (hU : ∀ id, m id ≠ none → U id) (hd : ∀ d, o.dst = some d → d < N) (hf : ∀ j, fresh ≤ j → j < r.2 → ¬ U j) {tx ty el : TypeId} {te : TI} (ht : P.underlying tx = some (.slice el)) (hte : TOk P el te)
  {A : Option Addr} {sLen sCap : Nat} {olds news : List Value} {cs : List HV} {x : Value} {n : Nat} {ws : List Wr}
  (hold : (Builtin.firstCells te.ty.size sLen (.slice A sLen sCap)).run P w.drew = .ok olds.toArray w.drew) (hs : Src P te.ty.size ty x n news w) (hg : sCap < sLen + n)
  (hcs : denL ρ m cs = some (olds ++ news)) (h1 : cs.all HV.one = true) (hlen : cs.length = (sLen + n) * te.ty.size)
  (hx : ∀ r w', (Builtin.append_ #[tx, ty] o.type #[.slice A sLen sCap, x]).run P w = .ok r w' → (execOp a.eval o).run P w = .ok (.value r) w')
  (hw : objW ws) (hH : HRep P ρ (appH H ws) m w)
  (hr : (grow fresh o el te.bytes cs (sLen + n) ws).run S H = some r) : o.wp P a w (After P ρ N U fresh S H m r) Q := by
 unfold grow at hr
 replace hr := run_bif hr
 obtain ⟨hb, hr⟩ := hr
 have hb := room_ok hb
 obtain ⟨i, hi, hz, hsz, hby⟩ := hte.parts
 have hwide := hte.wide
 have h63 : sLen + n ≤ 9223372036854775807 := by
  have := Nat.mul_le_mul_left (sLen + n) hwide
  omega
 have hfit := growslice_fits (need := sLen + n) (old := sCap) (bytes := te.bytes) hg hb
 rw [← hsz] at hold hs
 rw [← hby] at hfit
 have hrun := run_append_grow_src w tx ty o.type el i _ ht hi hz A sLen sCap olds hold x n news hs hg (by omega) hfit
 have hnx := dst_nx hr
 have hn := fresh_none hU (hf fresh (Nat.le_refl _) (by omega))
 have hge := grownCap_ge w (sLen + n) sCap el
 have hrep : HRep P ρ (appH H (ws ++ [.obj fresh (some (.cells el cs true))])) (m.set fresh w.heap.size (grownCap w (sLen + n) sCap el - (sLen + n))) (w.drew.alloc (.cells ((olds ++ news).toArray ++ Builtin.zeroCells (pk te.ty (zc te.ty)).cells (grownCap w (sLen + n) sCap el - (sLen + n))) el)) := by
  rw [appH_append]
  refine hH.new hn (fun k hk => Go.heap_alloc_old w.drew _ k hk) (Nat.le_refl _) ?_ ⟨rfl, rfl, rfl⟩
  refine ⟨w.heap.size, _, olds ++ news, (Builtin.zeroCells (pk te.ty (zc te.ty)).cells (grownCap w (sLen + n) sCap el - (sLen + n))).toList, Mp.set_same _ _ _ _, denL_mono (Mp.le_set hn) hcs, h1, ?_, ?_, (fun e => by cases e), .inr fun k hk => ?_⟩
  ·have e : ((olds ++ news) ++ (Builtin.zeroCells (pk te.ty (zc te.ty)).cells (grownCap w (sLen + n) sCap el - (sLen + n))).toList).toArray = (olds ++ news).toArray ++ Builtin.zeroCells (pk te.ty (zc te.ty)).cells (grownCap w (sLen + n) sCap el - (sLen + n)) := by
    apply Array.toList_inj.1; simp
   rw [e]
   exact Go.heap_alloc_new w.drew _
  ·rw [zeroCells_len, hte.cells]
  ·rw [hte.cells, hlen] at hk
   have hk := Nat.le_of_mul_le_mul_right hk hte.pos
   have hcm := grownCap_le_maxLen w (sLen + n) sCap el (by unfold maxLen; omega)
   omega
 refine fin_val h hd (v := .slice (some ⟨w.heap.size, 0, none⟩) (sLen + n) (grownCap w (sLen + n) sCap el)) (hx _ _ hrun) (Mp.le_set hn) hrep ?_ ?_ (dom_set hU (Nat.le_refl _) (Nat.lt_succ_self _)) hr
 ·intro y hy
  rcases List.mem_append.1 hy with hy | hy
  ·exact hw y hy
  ·simp at hy; exact ⟨_, _, hy⟩
 ·simp only [den, Mp.set_same, cond_true]
  congr 2; omega
theorem appendR_ok (h : Rep P ρ N S H m a w) (hU : ∀ id, m id ≠ none → U id) (hd : ∀ d, o.dst = some d → d < N) (hf : ∀ j, fresh ≤ j → j < r.2 → ¬ U j) {tx ty el : TypeId} {te : TI} (ht : P.underlying tx = some (.slice el)) (hte : TOk P el te)
  {v : HV} {xv x : Value} {n2 : Nat} {ys : List HV} {news : List Value} (hv : den ρ m v = some xv) (hys : denL ρ m ys = some news) (hy1 : ys.all HV.one = true) (hs : Src P te.ty.size ty x n2 news w) (hyl : ys.length = n2 * te.ty.size)
  (hx : ∀ r w', (Builtin.append_ #[tx, ty] o.type #[xv, x]).run P w = .ok r w' → (execOp a.eval o).run P w = .ok (.value r) w')
  (hr : (appendR fresh o el te.ty.size te.bytes v ys n2).run S H = some r) : o.wp P a w (After P ρ N U fresh S H m r) Q := by
 obtain ⟨i, hi, hz, hsz, hby⟩ := hte.parts
 have hs' := hs
 rw [← hsz] at hs'
 unfold appendR at hr
 split at hr
 ·simp only [den, Option.some.injEq] at hv
  subst hv
  cases hb : Nat.beq n2 0
  ·rw [hb] at hr
   simp only [cond_false] at hr
   have h0 : n2 ≠ 0 := fun e => by rw [e] at hb; cases hb
   have e : n2 = 0 + n2 := by omega
   rw [e] at hr
   exact grow_ok (A := none) (sLen := 0) (sCap := 0) (olds := []) h hU hd hf ht hte (run_firstCells_none w.drew _ 0 0 0) hs (by omega) (by simpa using hys) hy1 (by rw [Nat.zero_add]; exact hyl) hx (ws := []) (fun y hy => by simp at hy) (show HRep P ρ (appH H []) m w from h.heap) hr
  ·rw [hb] at hr
   have hb := Nat.eq_of_beq_eq_true hb
   subst hb
   exact fin_pure h hU hd (hx _ _ (run_append_none tx ty o.type el i ht hi hs' (Nat.le_refl 0))) rfl hr
 ·obtain ⟨q, e1, rfl⟩ := den_es hv
  cases hb : Nat.beq n2 0
  ·rw [hb] at hr; exact run_fail hr
  ·rw [hb] at hr
   have hb := Nat.eq_of_beq_eq_true hb
   subst hb
   exact fin_pure h hU hd (hx _ _ (run_append_none tx ty o.type el i ht hi hs' (Nat.zero_le _))) hv hr
 ·rename_i id off n c op
  obtain ⟨q, e1, rfl⟩ := den_sl hv
  obtain ⟨sl, hsl⟩ : ∃ sl, sl = bif op then q.2 else 0 := ⟨_, rfl⟩
  rw [← hsl] at hx
  cases hb : (Nat.beq n2 0 && Nat.ble n c)
  ·rw [hb] at hr
   simp only [cond_false] at hr
   replace hr := run_obj hr
   obtain ⟨ob, hob, hr⟩ := hr
   split at hr
   ·rename_i e cs opn
    obtain ⟨b, s, vs, post, q1, q2, q3, q4, q5, q6, q7⟩ := h.heap.objs id _ hob
    rw [q1] at e1; cases e1
    have hvl := denL_length q2
    have hnl := denL_length hys
    cases hc : Nat.ble (n + n2) c
    ·rw [hc] at hr
     simp only [cond_false] at hr
     have hc : ¬ n + n2 ≤ c := fun hl => by rw [Nat.ble_eq_true_of_le hl] at hc; cases hc
     replace hr := run_bif hr
     obtain ⟨hin, hr⟩ := hr
     have hle := inside_le hin
     have hold : (Builtin.firstCells te.ty.size n (.slice (some ⟨b, off, none⟩) n (c + sl))).run P w.drew = .ok ((vs.drop off).take (n * te.ty.size)).toArray w.drew := by
      refine run_firstCells_some w.drew _ n _ n _ _ (by simp only [List.length_take, List.length_drop]; omega) fun j u hu => ?_
      rw [Addr.add_mid]
      show w.cell? _ = _
      rw [cell_of_row w b _ _ e (0, 0) q4]
      rw [List.getElem?_take] at hu
      split at hu
      ·rw [List.getElem?_drop] at hu
       have hlt := (List.getElem?_eq_some_iff.1 hu).1
       rw [List.getElem?_toArray, List.getElem?_append_left hlt]
       exact hu
      ·cases hu
     cases hopn : (op && opn)
     ·rw [hopn] at hr
      simp only [cond_false] at hr
      have hsl0 : sl = 0 := by
       rw [hsl]
       cases op with
       | false => rfl
       | true => simp only [Bool.true_and] at hopn; exact q6 hopn
      exact grow_ok h hU hd hf ht hte hold hs (by omega) (denL_append (denL_cut _ _ q2) hys) (by rw [List.all_append, all_cut _ _ q3, hy1]; rfl) (by rw [List.length_append, hyl, cutAt, List.length_take, List.length_drop, Nat.add_mul]; omega) hx (ws := []) (fun y hy => by simp at hy) (show HRep P ρ (appH H []) m w from h.heap) hr
     ·rw [hopn] at hr
      simp only [cond_true] at hr
      replace hr := run_bif hr
      obtain ⟨hbb, hr⟩ := hr
      simp only [Bool.and_eq_true] at hbb hopn
      obtain ⟨⟨⟨b1, b2⟩, b3⟩, b4⟩ := hbb
      have b1 := Nat.eq_of_beq_eq_true b1
      have b2 := Nat.eq_of_beq_eq_true b2
      have b3 := Nat.eq_of_beq_eq_true b3
      have b4 := Nat.eq_of_beq_eq_true b4
      obtain ⟨rfl, rfl⟩ := hopn
      subst b1; subst b2; subst b4
      simp only [cond_true] at hsl
      subst hsl
      have hH : HRep P ρ (appH H [.obj id none]) m w := h.heap.kill id
      have htk : (vs.drop 0).take (n * te.ty.size) = vs := by rw [List.drop_zero, List.take_of_length_le (by omega)]
      by_cases hroom : n + n2 ≤ n + sl
      ·have hr0 := hr
       unfold grow at hr
       replace hr := run_bif hr
       obtain ⟨_, hr⟩ := hr
       have hnx := dst_nx hr
       have hfn := fresh_none hU (hf fresh (Nat.le_refl _) (by omega))
       have hcel := hte.cells
       have hpl : news.length ≤ post.length := by
        rw [hnl, hyl, q5, hcel]
        exact Nat.mul_le_mul_right _ (by omega)
       have hrun := run_append_room tx ty o.type e i ht hi (off := 0) (sLen := n) (sCap := n + sl) hs' hroom q4 (by rw [hsz, List.length_append]; omega)
       have hput : putV (vs ++ post) (0 + n * i.size) news = (vs ++ news) ++ post.drop news.length := by
        unfold putV
        rw [hsz, Nat.zero_add, b3, ← hvl, List.take_left' rfl, List.drop_append, List.drop_of_length_le (by omega), List.nil_append, Nat.add_sub_cancel_left]
       rw [hput] at hrun
       have hrep := h.heap.moved (fr := fresh) (s' := sl - n2) (ob' := .cells e (cs ++ ys) true) (w' := w.setRow b ((vs ++ news) ++ post.drop news.length).toArray) hob q1 hfn (fun k hk => Go.setRow_other w b k _ hk)
        ⟨b, sl - n2, vs ++ news, post.drop news.length, Mp.set_same _ _ _ _, denL_mono (Mp.le_set hfn) (denL_append q2 hys), by rw [List.all_append, q3, hy1]; rfl, Go.setRow_heap w b _ _ e (0, 0) q4, by rw [List.length_drop, q5, hnl, hyl, hcel, Nat.sub_mul], (fun e => by cases e), q7.elim (fun e => .inl (by omega)) fun q7 => .inr fun k hk => by
         rw [hcel, List.length_append, hyl] at hk
         rw [hcel] at q7
         by_cases hkn : k ≤ n2
         ·have := q7 0 (by omega); omega
         ·have := q7 (k - n2) (by rw [Nat.sub_mul]; omega); omega⟩ (by unfold World.setRow; first | exact ⟨rfl, rfl, rfl⟩ | (split <;> exact ⟨rfl, rfl, rfl⟩)) rfl
       refine fin_val h hd (v := .slice (some ⟨b, 0, none⟩) (n + n2) (n + sl)) (hx _ _ hrun) (Mp.le_set hfn) (ws0 := [Wr.obj id none] ++ [Wr.obj fresh (some (Ob.cells e (cs ++ ys) true))]) (show HRep P ρ (appH H ([Wr.obj id none] ++ [Wr.obj fresh (some (Ob.cells e (cs ++ ys) true))])) _ _ from hrep) ?_ ?_ (dom_set hU (Nat.le_refl _) (Nat.lt_succ_self _)) hr
       ·intro y hy
        simp at hy
        rcases hy with rfl | rfl <;> exact ⟨_, _, rfl⟩
       ·simp only [den, Mp.set_same, cond_true]
        congr 2; omega
      ·rw [htk] at hold
       exact grow_ok h hU hd hf ht hte hold hs (by omega) (denL_append q2 hys) (by rw [List.all_append, q3, hy1]; rfl) (by rw [List.length_append, hyl, Nat.add_mul, ← b3]) hx (fun y hy => by simp at hy; exact ⟨_, _, hy⟩) hH hr
    ·rw [hc] at hr
     simp only [cond_true] at hr
     have hc := Nat.le_of_ble_eq_true hc
     replace hr := run_bif hr
     obtain ⟨hbb, hr⟩ := hr
     simp only [Bool.and_eq_true] at hbb
     have hle := inside_le hbb.1
     obtain ⟨b', s', vs', post', w1, w2, w3, w4⟩ := h.heap.put hob hys hy1 (k := off + n * te.ty.size) (by omega)
     rw [q1] at w1; cases w1
     rw [q2] at w2; cases w2
     have hrun := run_append_room tx ty o.type el i ht hi (off := off) (sLen := n) (sCap := c + sl) hs' (by omega) w3 (by rw [hsz, List.length_append, hnl]; omega)
     rw [hsz] at hrun
     refine fin_val h hd (hx _ _ hrun) (Mp.le_refl m) (ws0 := [.obj id (some (.cells e (putAt cs (off + n * te.ty.size) ys) opn))]) w4 (fun y hy => by simp at hy; exact ⟨_, _, hy⟩) ?_ (fun id hi => .inl (hU id hi)) hr
     simp only [den, q1, ← hsl]
   ·exact run_fail hr
  ·rw [hb] at hr
   simp only [Bool.and_eq_true] at hb
   have hb1 := Nat.eq_of_beq_eq_true hb.1
   have hb2 := Nat.le_of_ble_eq_true hb.2
   subst hb1
   refine fin_pure h hU hd (hx _ _ (run_append_none tx ty o.type el i ht hi hs' (by omega))) ?_ hr
   simp only [den, e1, ← hsl]
 ·exact run_fail hr

theorem enc_mod {a c : Nat} (h : a < osB) : (a + osB * c) % osB = a ∧ (a + osB * c) / osB = c := by
 refine ⟨?_, ?_⟩
 ·rw [Nat.add_mul_mod_self_left, Nat.mod_eq_of_lt h]
 ·rw [Nat.add_mul_div_left _ _ (by decide), Nat.div_eq_of_lt h, Nat.zero_add]
theorem roomK_ok (hR : RngOk ρ Γ.R) {k : IV} {bytes d l : Nat} (h : roomK Γ k bytes d = true) (hl : (l : Int) ≤ k.ev ρ) : (l + d) * bytes ≤ 140737488355328 := by
 unfold roomK at h
 split at h
 ·rename_i r hr
  have h1 := (bnd_ok hR hr).2
  have h := of_decide_eq_true h
  have h2 : ((l : Int) + d) * bytes ≤ (r.2 + d) * bytes := Int.mul_le_mul_of_nonneg_right (by omega) (by omega)
  have h3 : (((l + d) * bytes : Nat) : Int) ≤ 140737488355328 := by
   have e : (((l + d) * bytes : Nat) : Int) = ((l : Int) + d) * bytes := by simp
   rw [e]; omega
  omega
 ·cases h
theorem hid_cells {b el : Nat} {arr : Array Value} (hg : w.heap[b]? = some (.cells arr el (0, 0))) {n : Nat} : ∀ j u, (arr.toList.take n)[j]? = some u → w.cell? ⟨b, 0 + j, none⟩ = some u := by
 intro j u hu
 have hg' : w.heap[b]? = some (.cells arr.toList.toArray el (0, 0)) := by simpa using hg
 rw [cell_of_row w b _ _ el (0, 0) hg', Nat.zero_add, List.getElem?_toArray]
 rw [List.getElem?_take] at hu
 split at hu
 ·exact hu
 ·cases hu
theorem plus_ev (k : IV) (n : Int) : (k.plus n).ev ρ = k.ev ρ + n := by
 cases k with
 | lit a => rfl
 | sym i c =>
  show ρ i + (c + n) = ρ i + c + n
  omega
theorem den_os' {id b s : Nat} {k : IV} (hm : m id = some (b, s)) (hl : ((s % osB : Nat) : Int) ≤ k.ev ρ) : den ρ m (.os id k) = some (.slice (some ⟨b, 0, none⟩) (s % osB) (s / osB)) := by
 simp only [den, hm, decide_eq_true hl, cond_true]
theorem hid_new {el : TypeId} {te : TI} (hte : TOk P el te) {n gc : Nat} {cs : List Value} (hl : cs.length = n * te.ty.size) (h1 : ∀ u ∈ cs, u.oneCell' = true) (hn : 1 ≤ n) (hb : n < osB) (hg : n ≤ gc) (hm : gc ≤ maxLen) {w' : World} {b id : Nat} {mm : Mp}
  (hmm : mm id = some (b, n + osB * gc)) (hh : w'.heap[b]? = some (.cells (cs.toArray ++ Builtin.zeroCells (pk te.ty (zc te.ty)).cells (gc - n)) el (0, 0))) : OR P ρ mm w' id (.hid el) := by
 obtain ⟨e1, e2⟩ := enc_mod (c := gc) hb
 refine ⟨b, _, _, hmm, hh, by rw [e1]; exact hn, by rw [e1, e2]; exact hg, by rw [e2]; exact hm, ?_, ?_⟩
 ·rw [e2, hte.cells, Array.size_append, List.size_toArray, hl, ← Array.length_toList, zeroCells_len, ← Nat.add_mul]
  congr 1; omega
 ·rw [e1, hte.cells, Array.toList_append, List.toList_toArray, List.take_left' hl]
  exact h1
theorem appOs_ok (hR : RngOk ρ Γ.R) (h : Rep P ρ N S H m a w) (hU : ∀ id, m id ≠ none → U id) (hd : ∀ d, o.dst = some d → d < N) (hf : ∀ j, fresh ≤ j → j < r.2 → ¬ U j) {tx ty el : TypeId} {te : TI} (ht : P.underlying tx = some (.slice el)) (hty : ∃ e, P.underlying ty = some (.slice e)) (hte : TOk P el te)
  {v : HV} {id : Nat} {k : IV} {xv x : Value} (hv : den ρ m v = some xv) (hu : den ρ m (.os id k) = some x)
  (hx : ∀ r w', (Builtin.append_ #[tx, ty] o.type #[xv, x]).run P w = .ok r w' → (execOp a.eval o).run P w = .ok (.value r) w')
  (hr : (appOs Γ fresh o el te.bytes v id k).run S H = some r) : o.wp P a w (After P ρ N U fresh S H m r) Q := by
 obtain ⟨i, hi, hz, hsz, hby⟩ := hte.parts
 unfold appOs at hr
 replace hr := run_bif hr
 obtain ⟨hc, hr⟩ := hr
 simp only [Bool.and_eq_true] at hc
 replace hr := run_obj hr
 obtain ⟨ob, hob, hr⟩ := hr
 split at hr
 ·rename_i e
  replace hr := run_bif hr
  obtain ⟨he, hr⟩ := hr
  have he := Nat.eq_of_beq_eq_true he
  subst he
  obtain ⟨q, w1, w2, rfl⟩ := den_os hu
  obtain ⟨b, s, arr, q1, q2, q3, q4, q5, q6, q7⟩ := h.heap.objs id _ hob
  rw [q1] at w1; cases w1
  simp only at w2 hx
  obtain ⟨l, hl⟩ : ∃ l, l = s % osB := ⟨_, rfl⟩
  obtain ⟨c, hcc⟩ : ∃ c, c = s / osB := ⟨_, rfl⟩
  rw [← hl] at w2 q3 q4 q7 hx
  rw [← hcc] at q4 q5 q6 hx
  have hroom := roomK_ok (l := l) hR hc.2 w2
  rw [Nat.add_zero] at hroom
  have hcell := hte.cells
  rw [hcell] at q6 q7
  have hnl : (arr.toList.take (l * te.ty.size)).length = l * te.ty.size := by
   rw [List.length_take, Array.length_toList, q6]
   exact Nat.min_eq_left (Nat.mul_le_mul_right _ q4)
  obtain ⟨e', he'⟩ := hty
  have hs : Src P te.ty.size ty (.slice (some ⟨b, 0, none⟩) l c) l (arr.toList.take (l * te.ty.size)) w :=
   Src.ofSlice w he' ⟨b, 0, none⟩ l c _ hnl (fun j u hj => by rw [Addr.add_mid]; exact hid_cells q2 j u hj) q7
  have hwide := hte.wide
  have h63 : l ≤ 140737488355328 := by
   have := Nat.mul_le_mul_left l hwide
   omega
  have hbl : l < osB := by show l < 9223372036854775808; omega
  have fin : ∀ A, xv = .slice A 0 0 → (Builtin.firstCells te.ty.size 0 (.slice A 0 0)).run P w.drew = .ok ([] : List Value).toArray w.drew → o.wp P a w (After P ρ N U fresh S H m r) Q := by
   intro A hA hold
   subst hA
   have hfit := growslice_fits (need := 0 + l) (old := 0) (bytes := te.bytes) (by omega) (by rw [Nat.zero_add]; exact hroom)
   rw [← hsz] at hold hs
   rw [← hby] at hfit
   have hrun := run_append_grow_src w tx ty o.type e i _ ht hi hz A 0 0 [] hold _ l _ hs (by omega) (by omega) hfit
   rw [Nat.zero_add] at hrun
   have hge := grownCap_ge w l 0 e
   have hcm := grownCap_le_maxLen w l 0 e (by unfold maxLen; omega)
   have hnx := dst_nx hr
   have hn := fresh_none hU (hf fresh (Nat.le_refl _) (by omega))
   obtain ⟨e1, e2⟩ := enc_mod (c := grownCap w l 0 e) hbl
   rw [hsz] at hs hrun
   have hrep : HRep P ρ (appH H [.obj fresh (some (.hid e))]) (m.set fresh w.heap.size (l + osB * grownCap w l 0 e)) (w.drew.alloc (.cells (([] ++ arr.toList.take (l * te.ty.size)).toArray ++ Builtin.zeroCells (pk te.ty (zc te.ty)).cells (grownCap w l 0 e - l)) e)) := by
    refine h.heap.new hn (fun k hk => Go.heap_alloc_old w.drew _ k hk) (Nat.le_refl _) ?_ ⟨rfl, rfl, rfl⟩
    refine hid_new hte (cs := [] ++ arr.toList.take (l * te.ty.size)) (by rw [List.nil_append]; exact hnl) (by rw [List.nil_append]; exact q7) q3 hbl hge hcm (Mp.set_same _ _ _ _) ?_
    exact Go.heap_alloc_new w.drew _
   refine fin_val h hd (v := .slice (some ⟨w.heap.size, 0, none⟩) l (grownCap w l 0 e)) (hx _ _ hrun) (Mp.le_set hn) hrep (fun y hy => by simp at hy; exact ⟨_, _, hy⟩) ?_ (dom_set hU (Nat.le_refl _) (Nat.lt_succ_self _)) hr
   have := den_os' (ρ := ρ) (k := k) (Mp.set_same m fresh w.heap.size (l + osB * grownCap w l 0 e)) (by rw [e1]; exact w2)
   rw [e1, e2] at this
   exact this
  have hce := hc.1
  unfold empS at hce
  split at hce
  ·simp only [den, Option.some.injEq] at hv
   exact fin none hv.symm (run_firstCells_none w.drew _ 0 0 0)
  ·rename_i id0 off0 n0 c0 op0
   simp only [Bool.and_eq_true] at hce
   have n0z := Nat.eq_of_beq_eq_true hce.1.1
   have c0z := Nat.eq_of_beq_eq_true hce.1.2
   have opz : op0 = false := by simpa using hce.2
   subst n0z; subst c0z; subst opz
   obtain ⟨q0, y1, y2⟩ := den_sl hv
   exact fin (some ⟨q0.1, off0, none⟩) y2 (run_firstCells_some w.drew _ 0 _ 0 _ [] (by simp) (fun j u hj => by simp at hj))
  ·cases hce
 ·exact run_fail hr
theorem appTo_ok (hR : RngOk ρ Γ.R) (h : Rep P ρ N S H m a w) (hU : ∀ id, m id ≠ none → U id) (hd : ∀ d, o.dst = some d → d < N) (hf : ∀ j, fresh ≤ j → j < r.2 → ¬ U j) {tx ty el : TypeId} {te : TI} (ht : P.underlying tx = some (.slice el)) (hte : TOk P el te)
  {id : Nat} {k : IV} {xv x : Value} {n2 : Nat} {news : List Value} (hv : den ρ m (.os id k) = some xv) (hs : Src P te.ty.size ty x n2 news w)
  (hx : ∀ r w', (Builtin.append_ #[tx, ty] o.type #[xv, x]).run P w = .ok r w' → (execOp a.eval o).run P w = .ok (.value r) w')
  (hr : (appTo Γ fresh o el te.bytes id k n2).run S H = some r) : o.wp P a w (After P ρ N U fresh S H m r) Q := by
 obtain ⟨i, hi, hz, hsz, hby⟩ := hte.parts
 unfold appTo at hr
 replace hr := run_bif hr
 obtain ⟨hc, hr⟩ := hr
 simp only [Bool.and_eq_true] at hc
 have hn2 : 0 < n2 := Nat.le_of_ble_eq_true hc.1
 replace hr := run_obj hr
 obtain ⟨ob, hob, hr⟩ := hr
 split at hr
 ·rename_i e
  replace hr := run_bif hr
  obtain ⟨he, hr⟩ := hr
  have he := Nat.eq_of_beq_eq_true he
  subst he
  obtain ⟨q, w1, w2, rfl⟩ := den_os hv
  obtain ⟨b, s, arr, q1, q2, q3, q4, q5, q6, q7⟩ := h.heap.objs id _ hob
  rw [q1] at w1; cases w1
  simp only at w2 hx
  obtain ⟨l, hl⟩ : ∃ l, l = s % osB := ⟨_, rfl⟩
  obtain ⟨c, hcc⟩ : ∃ c, c = s / osB := ⟨_, rfl⟩
  rw [← hl] at w2 q3 q4 q7 hx
  rw [← hcc] at q4 q5 q6 hx
  have hroom := roomK_ok (l := l) hR hc.2 w2
  have hcell := hte.cells
  rw [hcell] at q6 q7
  have hwide := hte.wide
  have h63 : l + n2 ≤ 140737488355328 := by
   have := Nat.mul_le_mul_left (l + n2) hwide
   omega
  have hal : arr.toList.length = c * te.ty.size := by rw [Array.length_toList]; exact q6
  have hbl : l + n2 < osB := by show l + n2 < 9223372036854775808; omega
  have hnews := hs.newsLen
  have hnl : (arr.toList.take (l * te.ty.size)).length = l * te.ty.size := by
   rw [List.length_take, Array.length_toList, q6]
   exact Nat.min_eq_left (Nat.mul_le_mul_right _ q4)
  have hnx := dst_nx hr
  have hfn := fresh_none hU (hf fresh (Nat.le_refl _) (by omega))
  have hle : ((l + n2 : Nat) : Int) ≤ (k.plus n2).ev ρ := by rw [plus_ev]; omega
  have objs2 : objW ([Wr.obj id none] ++ [Wr.obj fresh (some (Ob.hid e))]) := fun y hy => by
   simp at hy
   rcases hy with rfl | rfl
   ·exact ⟨_, _, rfl⟩
   ·exact ⟨_, _, rfl⟩
  by_cases hrm : l + n2 ≤ c
  ·obtain ⟨e1, e2⟩ := enc_mod (c := c) hbl
   have q2' : w.heap[b]? = some (.cells arr.toList.toArray e (0, 0)) := by simpa using q2
   have hmul : l * te.ty.size + n2 * te.ty.size ≤ c * te.ty.size := by
    rw [← Nat.add_mul]; exact Nat.mul_le_mul_right _ hrm
   have hs' := hs
   rw [← hsz] at hs'
   have hrun := run_append_room tx ty o.type e i ht hi (off := 0) (sLen := l) (sCap := c) hs' hrm q2' (by rw [hsz, hal]; omega)
   rw [hsz, Nat.zero_add] at hrun
   have hpl : (putV arr.toList (l * te.ty.size) news).length = c * te.ty.size := by
    unfold putV
    rw [List.length_append, List.length_append, hnl, List.length_drop, hal, hnews]; omega
   have hrep := h.heap.moved (fr := fresh) (s' := (l + n2) + osB * c) (ob' := .hid e) (w' := w.setRow b (putV arr.toList (l * te.ty.size) news).toArray) hob q1 hfn (fun k hk => Go.setRow_other w b k _ hk)
    ⟨b, _, _, Mp.set_same _ _ _ _, Go.setRow_heap w b _ _ e (0, 0) q2', by rw [e1]; omega, by rw [e1, e2]; exact hrm, by rw [e2]; exact q5, by rw [e2, hcell, List.size_toArray, hpl], by
     rw [e1, hcell, List.toList_toArray]
     unfold putV
     rw [List.take_left' (by rw [List.length_append, hnl, hnews, Nat.add_mul])]
     intro u hu
     rcases List.mem_append.1 hu with hu | hu
     ·exact q7 u hu
     ·exact hs.one u hu⟩ (by unfold World.setRow; first | exact ⟨rfl, rfl, rfl⟩ | (split <;> exact ⟨rfl, rfl, rfl⟩)) rfl
   refine fin_val h hd (v := .slice (some ⟨b, 0, none⟩) (l + n2) c) (hx _ _ hrun) (Mp.le_set hfn) (ws0 := [Wr.obj id none] ++ [Wr.obj fresh (some (Ob.hid e))]) (show HRep P ρ (appH H ([Wr.obj id none] ++ [Wr.obj fresh (some (Ob.hid e))])) _ _ from hrep) objs2 ?_ (dom_set hU (Nat.le_refl _) (Nat.lt_succ_self _)) hr
   have := den_os' (ρ := ρ) (k := k.plus n2) (Mp.set_same m fresh b (l + n2 + osB * c)) (by rw [e1]; exact hle)
   rw [e1, e2] at this
   exact this
  ·have hfit := growslice_fits (need := l + n2) (old := c) (bytes := te.bytes) (by omega) hroom
   have hold : (Builtin.firstCells te.ty.size l (.slice (some ⟨b, 0, none⟩) l c)).run P w.drew = .ok (arr.toList.take (l * te.ty.size)).toArray w.drew :=
    run_firstCells_some w.drew _ l _ l _ _ hnl (fun j u hj => by rw [Addr.add_mid]; exact hid_cells q2 j u hj)
   have hs' := hs
   rw [← hsz] at hold hs'
   rw [← hby] at hfit
   have hrun := run_append_grow_src w tx ty o.type e i _ ht hi hz _ l c _ hold _ n2 _ hs' (by omega) (by omega) hfit
   have hge := grownCap_ge w (l + n2) c e
   have hcm := grownCap_le_maxLen w (l + n2) c e (by unfold maxLen; omega)
   obtain ⟨e1, e2⟩ := enc_mod (c := grownCap w (l + n2) c e) hbl
   rw [hsz] at hrun
   have hH : HRep P ρ (appH H [.obj id none]) m w := h.heap.kill id
   have hrep : HRep P ρ (appH H ([.obj id none] ++ [.obj fresh (some (.hid e))])) (m.set fresh w.heap.size (l + n2 + osB * grownCap w (l + n2) c e)) (w.drew.alloc (.cells ((arr.toList.take (l * te.ty.size) ++ news).toArray ++ Builtin.zeroCells (pk te.ty (zc te.ty)).cells (grownCap w (l + n2) c e - (l + n2))) e)) := by
    rw [appH_append]
    refine hH.new hfn (fun k hk => Go.heap_alloc_old w.drew _ k hk) (Nat.le_refl _) ?_ ⟨rfl, rfl, rfl⟩
    refine hid_new hte (cs := arr.toList.take (l * te.ty.size) ++ news) (by rw [List.length_append, hnl, hnews, Nat.add_mul]) (fun u hu => ?_) (by omega) hbl hge hcm (Mp.set_same _ _ _ _) ?_
    ·rcases List.mem_append.1 hu with hu | hu
     ·exact q7 u hu
     ·exact hs.one u hu
    ·exact Go.heap_alloc_new w.drew _
   refine fin_val h hd (v := .slice (some ⟨w.heap.size, 0, none⟩) (l + n2) (grownCap w (l + n2) c e)) (hx _ _ hrun) (Mp.le_set hfn) (ws0 := [Wr.obj id none] ++ [Wr.obj fresh (some (Ob.hid e))]) hrep objs2 ?_ (dom_set hU (Nat.le_refl _) (Nat.lt_succ_self _)) hr
   have := den_os' (ρ := ρ) (k := k.plus n2) (Mp.set_same m fresh w.heap.size (l + n2 + osB * grownCap w (l + n2) c e)) (by rw [e1]; exact hle)
   rw [e1, e2] at this
   exact this
 ·exact run_fail hr
end
end Go.Proofs.YtehbbcdhahnkgaaGreat.Hm

namespace Go.Proofs.YtehbbcdhahnkgaaGreat.Hm
open Go
section
variable {P : Program} {Γ : Ctx} {ρ : En} {N : Nat} {S : Sl} {H : Hp} {m : Mp} {a : Act} {w : World} {o : Oper} {U : Nat → Prop} {fresh : Nat} {r : List Wr × Nat} {Q : Exit → Act → World → Prop}

theorem op_append (hT : TysOk P Γ.tys) (hR : RngOk ρ Γ.R) (h : Rep P ρ N S H m a w) (hU : ∀ id, m id ≠ none → U id) (hd : ∀ d, o.dst = some d → d < N) (hf : ∀ j, fresh ≤ j → j < r.2 → ¬ U j) {c : Call} {x y : Operand} (ho : o.op = .call c) (hc : c.callee = .builtin .append) (ha : c.args = #[x, y]) {tx ty : TypeId} (hty : c.argTypes.toList = [tx, ty])
  (hr : (evAppT Γ fresh o x y tx ty).run S H = some r) : o.wp P a w (After P ρ N U fresh S H m r) Q := by
 have hat : c.argTypes = #[tx, ty] := by apply Array.toList_inj.1; rw [hty]
 have hx : ∀ r w', (Builtin.append_ #[tx, ty] o.type #[a.eval x, a.eval y]).run P w = .ok r w' → (execOp a.eval o).run P w = .ok (.value r) w' := by
  intro r w' hrun
  simp only [execOp, ho, resolve, hc, ha, hat, Sem.run_bind, Sem.run_pure, Result.andThen_ok, invoke, builtin, List.map_toArray, List.map_cons, List.map_nil, hrun]
 have core : ∀ (str : Bool) (ti te : TI), TOk P ti.el te → P.underlying tx = some (.slice ti.el) → KindOk P str ty → (evAppend Γ fresh o x y str ti te).run S H = some r → o.wp P a w (After P ρ N U fresh S H m r) Q := by
  intro str ti te hte ht hk hr
  unfold evAppend at hr
  replace hr := opdR_ok h hr
  obtain ⟨v, h1, hr⟩ := hr
  replace hr := opdR_ok h hr
  obtain ⟨u, h2, hr⟩ := hr
  unfold evApp2 at hr
  split at hr
  ·rename_i id k
   cases str with
   | true => exact run_fail hr
   | false => exact appOs_ok hR h hU hd hf ht hk hte h1 h2 hx hr
  ·obtain ⟨ys, n, news, g1, g2, g3, g4, hr⟩ := elemsR_ok h hk h2 hr
   split at hr
   ·exact appTo_ok hR h hU hd hf ht hte h1 g3 hx hr
   ·exact appendR_ok h hU hd hf ht hte h1 g1 g2 g3 g4 hx hr
 unfold evAppT at hr
 replace hr := tyR_ok hT hr
 obtain ⟨ti, hti, hr⟩ := hr
 replace hr := tyR_ok hT hr
 obtain ⟨te, hte, hr⟩ := hr
 replace hr := run_bif hr
 obtain ⟨hsl, hr⟩ := hr
 have hsh := hti.shape
 rw [is_sl hsl] at hsh
 simp only [TSh] at hsh
 cases hb : Nat.beq tx ty
 ·rw [hb] at hr
  simp only [cond_false] at hr
  replace hr := tyR_ok hT hr
  obtain ⟨tj, htj, hr⟩ := hr
  replace hr := run_bif hr
  obtain ⟨hss, hr⟩ := hr
  have hsj := htj.shape
  refine core _ ti te hte hsh ?_ hr
  cases hq : tj.ty <;> rw [hq] at hss hsj <;> (try cases hss)
  ·exact hsj
  ·exact ⟨_, hsj⟩
 ·rw [hb] at hr
  have hb := Nat.eq_of_beq_eq_true hb
  subst hb
  exact core false ti te hte hsh ⟨_, hsh⟩ hr
theorem op_clear (hT : TysOk P Γ.tys) (h : Rep P ρ N S H m a w) (hU : ∀ id, m id ≠ none → U id) (hd : ∀ d, o.dst = some d → d < N) {c : Call} {x : Operand} (ho : o.op = .call c) (hc : c.callee = .builtin .clear) (ha : c.args = #[x]) {t : TypeId} (hty : c.argTypes.toList = [t])
  (hr : (tyR Γ t fun ti => opdR x (evClear Γ fresh o ti)).run S H = some r) : o.wp P a w (After P ρ N U fresh S H m r) Q := by
 have hat : c.argTypes = #[t] := by apply Array.toList_inj.1; rw [hty]
 have hx : ∀ r w', (Builtin.clear_ #[t] o.type #[a.eval x]).run P w = .ok r w' → (execOp a.eval o).run P w = .ok (.value r) w' := by
  intro r w' hrun
  simp only [execOp, ho, resolve, hc, ha, hat, Sem.run_bind, Sem.run_pure, Result.andThen_ok, invoke, builtin, List.map_toArray, List.map_cons, List.map_nil, hrun]
 replace hr := tyR_ok hT hr
 obtain ⟨ti, hti, hr⟩ := hr
 replace hr := opdR_ok h hr
 obtain ⟨v, h1, hr⟩ := hr
 obtain ⟨du, hu, _⟩ := hti.row
 have none_ : ∀ A c, (Builtin.clear_ #[t] o.type #[.slice A 0 c]).run P w = .ok (.tuple #[]) w := by
  intro A c
  cases A <;> simp [Builtin.clear_, run_underlying hu]
 unfold evClear at hr
 split at hr
 ·simp only [den, Option.some.injEq] at h1
  rw [← h1] at hx
  exact fin_pure h hU hd (hx _ _ (none_ _ _)) rfl hr
 ·obtain ⟨q, e1, e2⟩ := den_es h1
  rw [e2] at hx
  exact fin_pure h hU hd (hx _ _ (none_ _ _)) rfl hr
 ·rename_i id off n c2 op
  obtain ⟨q, e1, e2⟩ := den_sl h1
  cases hb : Nat.beq n 0
  ·rw [hb] at hr
   simp only [cond_false] at hr
   have hn : n ≠ 0 := fun e => by rw [e] at hb; cases hb
   cases hs : isSl ti.ty
   ·rw [hs] at hr; exact run_fail hr
   ·rw [hs] at hr
    simp only [Bool.not_true, cond_false] at hr
    have hsh := hti.shape
    rw [is_sl hs] at hsh
    simp only [TSh] at hsh
    replace hr := tyR_ok hT hr
    obtain ⟨te, hte, hr⟩ := hr
    replace hr := run_obj hr
    obtain ⟨ob, hob, hr⟩ := hr
    split at hr
    ·rename_i e cs opn
     replace hr := run_bif hr
     obtain ⟨hin, hr⟩ := hr
     have hle := inside_le hin
     have hz0 : denL ρ m (rep n te.ty.zero) = some (List.replicate n (zc te.ty)).flatten := denL_rep (den_zero te.ty) n
     have hz1 : (rep n te.ty.zero).all HV.one = true := zero_one (.arr n te.ty)
     have hzl : (rep n te.ty.zero).length = n * te.ty.size := by rw [rep_length, zero_length]
     obtain ⟨b, s, vs, post, q1, q2, q4, q5⟩ := h.heap.put hob hz0 hz1 (k := off) (by omega)
     rw [q1] at e1; cases e1
     obtain ⟨it, hi, hz, hsz, _⟩ := hte.parts
     have hzc : (Builtin.zeroCells (pk te.ty (zc te.ty)).cells n).toList = (List.replicate n (zc te.ty)).flatten := by
      unfold Builtin.zeroCells; rw [modCells, pk_zero_cells]
     have hnl := denL_length hz0
     have hvl := denL_length q2
     have hst := run_storeCells_at P b off e (List.replicate n (zc te.ty)).flatten 0 (vs ++ post).toArray w q4 (by rw [List.size_toArray, List.length_append, hnl, hzl]; omega) (fun v hv => one_cells hz0 hz1 v hv)
     simp only [Nat.add_zero] at hst
     rw [e2] at hx
     have hrun : (Builtin.clear_ #[t] o.type #[.slice (some ⟨b, off, none⟩) n (c2 + bif op then s else 0)]).run P w = .ok (.tuple #[]) (w.setRow b (putV (vs ++ post) off (List.replicate n (zc te.ty)).flatten).toArray) := by
      obtain ⟨k, rfl⟩ : ∃ k, n = k + 1 := ⟨n - 1, by omega⟩
      have hst' : (storeCells ⟨b, off, none⟩ (Builtin.zeroCells (pk te.ty (zc te.ty)).cells (k + 1)).toList).run P w = .ok () (w.setRow b (putV (vs ++ post) off (List.replicate (k + 1) (zc te.ty)).flatten).toArray) := by rw [hzc]; exact hst
      simp [Builtin.clear_, run_underlying hsh, zeroValue, typeInfo, hi, hz, hst']
     exact fin_val h hd (hx _ _ hrun) (Mp.le_refl m) (ws0 := [.obj id (some (.cells e (putAt cs off (rep n te.ty.zero)) opn))]) q5 (fun y hy => by simp at hy; exact ⟨_, _, hy⟩) rfl (fun id hi => .inl (hU id hi)) hr
    ·exact run_fail hr
  ·rw [hb] at hr
   have hb := Nat.eq_of_beq_eq_true hb
   subst hb
   rw [e2] at hx
   exact fin_pure h hU hd (hx _ _ (none_ _ _)) rfl hr
 ·exact run_fail hr
theorem run_convert_int {src dst : TypeId} {d : TypeDesc} {kd kx : IntKind} {n : Int} (hs : P.underlying src = some d) (hd : P.underlying dst = some (.int kd)) : (convert src dst (.int kx n)).run P w = .ok (.int kd (kd.wrap n)) w := by
 simp only [convert, Sem.run_bind, run_underlying hs, run_underlying hd, Result.andThen_ok, Conv.intToInt, Sem.run_pure]
theorem byteOf_ok {v : HV} {b : UInt8} {x : Value} (h : byteOf v = some b) (hv : den ρ m v = some x) : x = .int .u8 (b.toNat : Int) := by
 unfold byteOf at h
 split at h
 ·rename_i n
  cases h
  obtain ⟨rfl, h1⟩ := den_int hv
  rw [inKind_iff, show IntKind.u8.min = 0 from rfl, show IntKind.u8.max = 255 from rfl] at h1
  simp only [IV.ev] at h1 ⊢
  rw [UInt8.toNat_ofNat', show ((n.toNat % 2 ^ 8 : Nat) : Int) = n by omega]
 ·cases h
theorem bytesOf_ok : ∀ {cs : List HV} {bs : List UInt8} {xs : List Value}, bytesOf cs = some bs → denL ρ m cs = some xs → xs = bs.map fun b => Value.int .u8 (b.toNat : Int)
 | [], bs, xs, h, hd => by simp only [bytesOf] at h; cases h; simp only [denL] at hd; cases hd; rfl
 | v :: l, bs, xs, h, hd => by
  simp only [bytesOf] at h
  split at h
  ·rename_i b bs' hb hbs
   cases h
   obtain ⟨x, ys, h1, h2, rfl⟩ := denL_cons hd
   rw [byteOf_ok hb h1, bytesOf_ok hbs h2]; rfl
  ·cases h
theorem is_u8 {t : Ty} (h : isU8 t = true) : t = .int .u8 := by
 cases t <;> (try cases h)
 rename_i k
 cases k <;> first | rfl | cases h
theorem op_convert (hT : TysOk P Γ.tys) (hR : RngOk ρ Γ.R) (h : Rep P ρ N S H m a w) (hU : ∀ id, m id ≠ none → U id) (hd : ∀ d, o.dst = some d → d < N) (hf : ∀ j, fresh ≤ j → j < r.2 → ¬ U j) {s d : TypeId} {x : Operand} (ho : o.op = .convert s d x)
  (hr : (tyR Γ s fun tj => tyR Γ d fun ti => opdR x (evConv Γ fresh o tj ti)).run S H = some r) : o.wp P a w (After P ρ N U fresh S H m r) Q := by
 replace hr := tyR_ok hT hr
 obtain ⟨tj, htj, hr⟩ := hr
 replace hr := tyR_ok hT hr
 obtain ⟨ti, hti, hr⟩ := hr
 have hsh := hti.shape
 replace hr := opdR_ok h hr
 obtain ⟨v, h1, hr⟩ := hr
 have exec : ∀ z w', (convert s d (a.eval x)).run P w = .ok z w' → (execOp a.eval o).run P w = .ok (.value z) w' := by
  intro z w' hz
  simp only [execOp, ho, Sem.run_bind, hz, Result.andThen_ok, Sem.run_pure]
 unfold evConv at hr
 split at hr
 ·rename_i k hty
  rw [hty] at hsh
  simp only [TSh] at hsh
  obtain ⟨ds, hds, _⟩ := htj.row
  unfold evConvI at hr
  split at hr
  ·rename_i k' y
   replace hr := run_optR hr
   obtain ⟨z, hz, hr⟩ := hr
   obtain ⟨e1, e2⟩ := den_int h1
   obtain ⟨e3, e4⟩ := convI_ok hR hz
   exact fin_pure h hU hd (exec _ _ (by rw [e1, run_convert_int hds hsh, e3])) (den_int' e4) hr
  ·exact run_fail hr
 ·rename_i hty
  rw [hty] at hsh
  simp only [TSh] at hsh
  unfold evConvS at hr
  replace hr := run_bif hr
  obtain ⟨hsl, hr⟩ := hr
  have hsj := htj.shape
  rw [is_sl hsl] at hsj
  simp only [TSh] at hsj
  replace hr := tyR_ok hT hr
  obtain ⟨te, hte, hr⟩ := hr
  replace hr := run_bif hr
  obtain ⟨hu8, hr⟩ := hr
  have hse := hte.shape
  rw [is_u8 hu8] at hse
  simp only [TSh] at hse
  unfold elemsR at hr
  split at hr
  ·simp only [den, Option.some.injEq] at h1
   refine fin_pure h hU hd (v := .string ⟨#[]⟩) (exec _ _ ?_) rfl hr
   rw [← h1]
   simp only [convert, Sem.run_bind, run_underlying hsj, run_underlying hsh, run_underlying hse, Result.andThen_ok, Conv.bytesToString, Sem.run_pure]
   rfl
  ·obtain ⟨q, e1, e2⟩ := den_es h1
   refine fin_pure h hU hd (v := .string ⟨#[]⟩) (exec _ _ ?_) rfl hr
   rw [e2]
   exact run_convert_bytes_back w s d tj.el _ _ [] hsj hse hsh (fun j hj => by simp at hj)
  ·rename_i id off n c op
   replace hr := run_obj (show (RT.obj id _).run S H = some r from hr)
   obtain ⟨ob, hob, hr⟩ := hr
   replace hr := run_optR hr
   obtain ⟨cs, hcs, hr⟩ := hr
   replace hr := run_bif hr
   obtain ⟨hb, hr⟩ := hr
   replace hr := run_optR hr
   obtain ⟨bs, hbs, hr⟩ := hr
   obtain ⟨b, s', vs, post, el, fr, q1, q2, q3, q4⟩ := (h.heap.objs id _ hob).rd hcs
   obtain ⟨q, e1, e2⟩ := den_sl h1
   rw [q1] at e1; cases e1
   have hdc := denL_cut off (n * 1) q2
   have hbv := bytesOf_ok hbs hdc
   have hlen : bs.length = n := by
    have := denL_length hdc
    rw [hbv, List.length_map, cut_length hb] at this
    omega
   refine fin_pure h hU hd (v := .string ⟨bs.toArray⟩) (exec _ _ ?_) rfl hr
   rw [e2, ← hlen]
   refine run_convert_bytes_back w s d tj.el _ _ bs hsj hse hsh fun j hj => ?_
   rw [Addr.add_mid, cell_of_row w b _ _ el fr q4]
   have hg : ((vs.drop off).take (n * 1))[j]? = some (.int .u8 (bs[j].toNat : Int)) := by rw [hbv]; simp [hj]
   rw [List.getElem?_take] at hg
   split at hg
   ·rw [List.getElem?_drop] at hg
    have hlt := (List.getElem?_eq_some_iff.1 hg).1
    rw [List.getElem?_toArray, List.getElem?_append_left hlt]
    exact hg
   ·cases hg
  ·exact run_fail hr
  ·exact run_fail hr
 ·rename_i hty
  rw [hty] at hsh
  simp only [TSh] at hsh
  unfold evConvB at hr
  split at hr
  ·rename_i bs
   replace hr := tyR_ok hT hr
   obtain ⟨te, hte, hr⟩ := hr
   replace hr := run_bif hr
   obtain ⟨hb, hr⟩ := hr
   simp only [Bool.and_eq_true] at hb
   have hsj := htj.shape
   rw [is_str hb.1.1] at hsj
   simp only [TSh] at hsj
   have hse := hte.shape
   rw [is_u8 hb.1.2] at hse
   simp only [TSh] at hse
   simp only [den, Option.some.injEq] at h1
   have hsz : (ByteArray.mk bs.toArray).size = bs.length := by simp [ByteArray.size]
   have hge := grownCap_ge w bs.length 0 ti.el
   have hrun := Lib.run_convert_string_bytes (P := P) w s d ti.el ⟨bs.toArray⟩ hsj hsh hse
   rw [hsz, h1] at hrun
   have hnx := dst_nx hr
   have hn := fresh_none hU (hf fresh (Nat.le_refl _) (by omega))
   obtain ⟨g1, g2⟩ := bytes_den (ρ := ρ) (m := m) bs
   have hcl : (Lib.bytesCells w ti.el ⟨bs.toArray⟩).toList = (bs.map fun b => Value.int .u8 (b.toNat : Int)) ++ List.replicate (grownCap w bs.length 0 ti.el - bs.length) (.int .u8 0) := by
    unfold Lib.bytesCells; rw [hsz]; simp
   have hcl' : Lib.bytesCells w ti.el ⟨bs.toArray⟩ = ((List.map (fun b : UInt8 => Value.int .u8 (b.toNat : Int)) bs) ++ List.replicate (grownCap w bs.length 0 ti.el - bs.length) (Value.int .u8 0)).toArray := by
    apply Array.toList_inj.1; rw [hcl]
   obtain ⟨fr, hfr, hold⟩ : ∃ fr, (Lib.bytesWorld w ti.el ⟨bs.toArray⟩).heap[w.heap.size]? = some (.cells (Lib.bytesCells w ti.el ⟨bs.toArray⟩) ti.el fr) ∧ ∀ k, k < w.heap.size → (Lib.bytesWorld w ti.el ⟨bs.toArray⟩).heap[k]? = w.heap[k]? := by
    unfold Lib.bytesWorld World.freeze
    have hnew := Go.heap_alloc_new w.drew (.cells (Lib.bytesCells w ti.el ⟨bs.toArray⟩) ti.el)
    split
    ·exact ⟨_, hnew, fun k hk => Go.heap_alloc_old w.drew _ k hk⟩
    ·simp only [Array.getElem?_modify, if_true]
     have hnew' : (w.drew.alloc (.cells (Lib.bytesCells w ti.el ⟨bs.toArray⟩) ti.el)).heap[w.heap.size]? = some (.cells (Lib.bytesCells w ti.el ⟨bs.toArray⟩) ti.el (0, 0)) := hnew
     refine ⟨_, by rw [hnew']; rfl, fun k hk => ?_⟩
     rw [if_neg (by omega)]
     exact Go.heap_alloc_old w.drew _ k hk
   have hrep : HRep P ρ (appH H [.obj fresh (some (.ro ti.el (bs.map fun b => .i .u8 (.lit b.toNat))))]) (m.set fresh w.heap.size (grownCap w bs.length 0 ti.el - bs.length)) (Lib.bytesWorld w ti.el ⟨bs.toArray⟩) := by
    refine h.heap.new hn hold (Nat.le_refl _) ?_ (by unfold Lib.bytesWorld World.freeze; split <;> exact ⟨rfl, rfl, rfl⟩)
    exact ⟨w.heap.size, _, _, List.replicate (grownCap w bs.length 0 ti.el - bs.length) (.int .u8 0), fr, Mp.set_same _ _ _ _, denL_mono (Mp.le_set hn) g1, g2, by rw [← hcl']; exact hfr⟩
   refine fin_val h hd (v := .slice (some ⟨w.heap.size, 0, none⟩) bs.length (grownCap w bs.length 0 ti.el)) (exec _ _ hrun) (Mp.le_set hn) hrep (fun y hy => by simp at hy; exact ⟨_, _, hy⟩) ?_ (dom_set hU (Nat.le_refl _) (Nat.lt_succ_self _)) hr
   simp only [den, Mp.set_same, cond_true]
   congr 2; omega
  ·exact run_fail hr
 ·exact run_fail hr
end
end Go.Proofs.YtehbbcdhahnkgaaGreat.Hm

namespace Go.Proofs.YtehbbcdhahnkgaaGreat.Hm
open Go
section
variable {P : Program} {Γ : Ctx} {ρ : En} {N : Nat} {S : Sl} {H : Hp} {m : Mp} {a : Act} {w : World} {o : Oper} {U : Nat → Prop} {fresh : Nat} {r : List Wr × Nat} {Q : Exit → Act → World → Prop}
theorem checkKey_int {kt : TypeId} {kd : IntKind} (hd : P.underlying kt = some (.int kd)) (e : Bool) (n : Nat) (k : Value) : (Instr.checkKey e (n + 1) kt k).run P w = .ok () w := by
 unfold Instr.checkKey
 simp only [Sem.run_bind, run_underlying hd, Result.andThen_ok]
 cases k <;> rfl
theorem findEnt_ok {R : Rng} (hR : RngOk ρ R) {kd : IntKind} {κ : IntKind} {x : IV} : ∀ {ents : List (HV × HV)} {es : List MapEntry} {i : Nat} {q : Option HV}, All2 (EntR ρ m) ents es → findEnt R (.i κ x) ents = some q →
  (q = none → Instr.findNow (.int kd) (.int κ (x.ev ρ)) es i = some none) ∧ ∀ v, q = some v → ∃ j val, Instr.findNow (.int kd) (.int κ (x.ev ρ)) es i = some (some (j, val)) ∧ den ρ m v = some val := by
 intro ents es i q h
 induction h generalizing i with
 | nil => intro hf; simp only [findEnt] at hf; cases hf; exact ⟨fun _ => rfl, fun v e => (by cases e)⟩
 | @cons p e ents es hp _ ih =>
  obtain ⟨k', v'⟩ := p
  obtain ⟨h1, h2⟩ := hp
  intro hf
  simp only [findEnt] at hf
  cases hc : cellEq R (.i κ x) k' with
  | none => rw [hc] at hf; cases hf
  | some b =>
   rw [hc] at hf
   obtain ⟨κ', y, rfl⟩ : ∃ κ' y, k' = .i κ' y := by
    cases k' <;> simp [cellEq] at hc
    exact ⟨_, _, rfl⟩
   simp only [cellEq] at hc
   cases hs : IntKind.same κ κ' <;> rw [hs] at hc <;> (try cases hc)
   have := same_kind hs
   subst this
   have he := ivEq_ok hR hc
   obtain ⟨e1, _⟩ := den_int h1
   have hsame : Instr.sameNow (.int kd) (.int κ (x.ev ρ)) e.key = some b := by
    rw [e1]; simp [Instr.sameNow, he, ibeq]
   cases b with
   | true =>
    cases hf
    exact ⟨fun z => (by cases z), fun v hv => (by cases hv; exact ⟨i, e.val, by simp [Instr.findNow, hsame], h2⟩)⟩
   | false =>
    obtain ⟨g1, g2⟩ := ih (i := i + 1) hf
    exact ⟨fun hq => by simp [Instr.findNow, hsame, g1 hq], fun v hv => let ⟨j, val, z1, z2⟩ := g2 v hv; ⟨j, val, by simp [Instr.findNow, hsame, z1], z2⟩⟩
theorem den_mp {id : Nat} {x : Value} (h : den ρ m (.mp id) = some x) : ∃ q, m id = some q ∧ x = .map (some q.1) := by
 simp only [den] at h
 split at h
 ·rename_i q hq; cases h; exact ⟨q, hq, rfl⟩
 ·cases h
theorem is_mp {t : Ty} (h : isMp t = true) : t = .mp := by cases t <;> first | rfl | cases h
theorem is_i {v : HV} (h : isI v = true) : ∃ k x, v = .i k x := by cases v <;> first | exact ⟨_, _, rfl⟩ | cases h
theorem op_makeMap (h : Rep P ρ N S H m a w) (hU : ∀ id, m id ≠ none → U id) (hd : ∀ d, o.dst = some d → d < N) (hf : ∀ j, fresh ≤ j → j < r.2 → ¬ U j) {t : TypeId} {x : Option Operand} (ho : o.op = .makeMap t x)
  (hr : (evMakeMap fresh o x).run S H = some r) : o.wp P a w (After P ρ N U fresh S H m r) Q := by
 unfold evMakeMap at hr
 split at hr
 ·have hnx := dst_nx hr
  have hn := fresh_none hU (hf fresh (Nat.le_refl _) (by omega))
  have hrep : HRep P ρ (appH H [.obj fresh (some (.map []))]) (m.set fresh w.heap.size 0) (w.alloc (.map #[] 0)) :=
   h.heap.new hn (fun k hk => Go.heap_alloc_old w _ k hk) (Nat.le_refl _) ⟨w.heap.size, 0, #[], 0, Mp.set_same _ _ _ _, Go.heap_alloc_new w _, .nil⟩ ⟨rfl, rfl, rfl⟩
  refine fin_val h hd (v := .map (some w.heap.size)) ?_ (Mp.le_set hn) hrep (fun y hy => by simp at hy; exact ⟨_, _, hy⟩) (by simp only [den, Mp.set_same]) (dom_set hU (Nat.le_refl _) (Nat.lt_succ_self _)) hr
  simp [execOp, ho, Instr.makeMap, run_newObj]
 ·exact run_fail hr
theorem op_insert (hT : TysOk P Γ.tys) (hR : RngOk ρ Γ.R) (h : Rep P ρ N S H m a w) (hU : ∀ id, m id ≠ none → U id) {t : TypeId} {x k v : Operand} (ho : o.op = .insert t x k v)
  (hr : (tyR Γ t fun ti => opdR x fun m => opdR k fun k => opdR v fun v => evInsert Γ fresh o ti k v m).run S H = some r) : o.wp P a w (After P ρ N U fresh S H m r) Q := by
 replace hr := tyR_ok hT hr
 obtain ⟨ti, hti, hr⟩ := hr
 replace hr := opdR_ok h hr
 obtain ⟨mv, h1, hr⟩ := hr
 replace hr := opdR_ok h hr
 obtain ⟨kv, h2, hr⟩ := hr
 replace hr := opdR_ok h hr
 obtain ⟨vv, h3, hr⟩ := hr
 unfold evInsert at hr
 split at hr
 ·rename_i id
  cases hb : (isI kv && isMp ti.ty)
  ·rw [hb] at hr; exact run_fail hr
  ·rw [hb] at hr
   simp only [Bool.not_true, cond_false] at hr
   simp only [Bool.and_eq_true] at hb
   obtain ⟨κ, y, rfl⟩ := is_i hb.1
   have hsh := hti.shape
   rw [is_mp hb.2] at hsh
   obtain ⟨kt, kd, hu, hk⟩ := hsh
   replace hr := run_obj hr
   obtain ⟨ob, hob, hr⟩ := hr
   split at hr
   ·rename_i ents
    split at hr
    ·rename_i hfe
     obtain ⟨b, s, es, clock, q1, q2, q3⟩ := h.heap.objs id _ hob
     obtain ⟨q, e1, e2⟩ := den_mp h1
     rw [q1] at e1; cases e1
     obtain ⟨e3, _⟩ := den_int h2
     have hfn := (findEnt_ok hR (kd := kd) (i := 0) q3 hfe).1 rfl
     have hset := MapKept.heap_set (o' := .map (es.push { key := a.eval k, val := a.eval v, born := clock }) (clock + 1)) q2
     have hrun : (Instr.mapUpdate t (a.eval x) (a.eval k) (a.eval v)).run P w = .ok () { w with heap := w.heap.setIfInBounds b (.map (es.push { key := a.eval k, val := a.eval v, born := clock }) (clock + 1)) } := by
      rw [e2]
      have hck := checkKey_int (w := w) hk false 9999 (a.eval k)
      rw [e3] at hck ⊢
      simp only [Instr.mapUpdate, Sem.run_bind, run_underlying hu, Result.andThen_ok, MapKept.run_getObj_map q2, hck, MapKept.run_findKey hk hfn, MapKept.run_setObj_map _ q2]
     have hrep : HRep P ρ (appH H [.obj id (some (.map (ents ++ [(.i κ y, vv)])))]) m { w with heap := w.heap.setIfInBounds b (.map (es.push { key := a.eval k, val := a.eval v, born := clock }) (clock + 1)) } := by
      refine h.heap.write hob q1 (fun j hj => hset.2 j hj) ⟨b, s, _, _, q1, hset.1, ?_⟩ ⟨rfl, rfl, rfl⟩ rfl
      rw [Array.toList_push]
      exact q3.append (.cons ⟨h2, h3⟩ .nil)
     refine fin_skip h hU ?_ hrep (fun y hy => by simp at hy; exact ⟨_, _, hy⟩) hr
     simp only [execOp, ho, Sem.run_bind, hrun, Result.andThen_ok, Sem.run_pure]
    ·exact run_fail hr
   ·exact run_fail hr
 ·exact run_fail hr
theorem op_lookup (hT : TysOk P Γ.tys) (hR : RngOk ρ Γ.R) (h : Rep P ρ N S H m a w) (hU : ∀ id, m id ≠ none → U id) (hd : ∀ d, o.dst = some d → d < N) {t : TypeId} {x i : Operand} {ok : Bool} (ho : o.op = .lookup t x i ok)
  (hr : (tyR Γ t fun ti => opdR x fun v => opdR i fun u => evLookup Γ fresh o ti u ok v).run S H = some r) : o.wp P a w (After P ρ N U fresh S H m r) Q := by
 replace hr := tyR_ok hT hr
 obtain ⟨ti, hti, hr⟩ := hr
 replace hr := opdR_ok h hr
 obtain ⟨mv, h1, hr⟩ := hr
 replace hr := opdR_ok h hr
 obtain ⟨kv, h2, hr⟩ := hr
 unfold evLookup at hr
 split at hr
 ·rename_i id
  cases hb : (isI kv && isMp ti.ty)
  ·rw [hb] at hr; exact run_fail hr
  ·rw [hb] at hr
   simp only [Bool.not_true, cond_false] at hr
   simp only [Bool.and_eq_true] at hb
   obtain ⟨κ, y, rfl⟩ := is_i hb.1
   have hsh := hti.shape
   rw [is_mp hb.2] at hsh
   obtain ⟨kt, kd, hu, hk⟩ := hsh
   replace hr := run_obj hr
   obtain ⟨ob, hob, hr⟩ := hr
   split at hr
   ·rename_i ents
    obtain ⟨b, s, es, clock, q1, q2, q3⟩ := h.heap.objs id _ hob
    obtain ⟨q, e1, e2⟩ := den_mp h1
    rw [q1] at e1; cases e1
    obtain ⟨e3, _⟩ := den_int h2
    have hck := fun e => checkKey_int (w := w) hk e 9999 (a.eval i)
    split at hr
    ·rename_i v hfe
     obtain ⟨j, val, z1, z2⟩ := (findEnt_ok hR (kd := kd) (i := 0) q3 hfe).2 v rfl
     rw [← e3] at z1
     refine fin_pure h hU hd (v := if ok then .tuple #[val, .bool true] else val) ?_ ?_ hr
     ·simp only [execOp, ho, e2, Instr.lookup, Sem.run_bind, run_underlying hu, Result.andThen_ok, MapKept.run_getObj_map q2, hck, MapKept.run_findKey hk z1, Sem.run_pure]
     ·cases ok
      ·exact z2
      ·have := denL_cons' z2 (denL_cons' (show den ρ m (.b true) = some (.bool true) from rfl) (show denL ρ m [] = some [] from rfl))
       simp only [cond_true, if_true, den, this]
    ·rename_i hfe
     have z1 := (findEnt_ok hR (kd := kd) (i := 0) q3 hfe).1 rfl
     rw [← e3] at z1
     replace hr := tyR_ok hT hr
     obtain ⟨te, hte, hr⟩ := hr
     replace hr := run_optR hr
     obtain ⟨z, hz, hr⟩ := hr
     have hzd := den_valOf hz (den_zero (ρ := ρ) (m := m) te.ty) (zero_one te.ty)
     obtain ⟨it, g1, g2, _, _⟩ := hte.parts
     refine fin_pure h hU hd (v := if ok then .tuple #[pk te.ty (zc te.ty), .bool false] else pk te.ty (zc te.ty)) ?_ ?_ hr
     ·simp only [execOp, ho, e2, Instr.lookup, Sem.run_bind, run_underlying hu, Result.andThen_ok, MapKept.run_getObj_map q2, hck, MapKept.run_findKey hk z1, Sem.run_pure, zeroValue, typeInfo, run_program, g1, g2]
     ·cases ok
      ·exact hzd
      ·have := denL_cons' hzd (denL_cons' (show den ρ m (.b false) = some (.bool false) from rfl) (show denL ρ m [] = some [] from rfl))
       simp only [cond_true, if_true, den, this]
    ·exact run_fail hr
   ·exact run_fail hr
 ·exact run_fail hr
end
end Go.Proofs.YtehbbcdhahnkgaaGreat.Hm
