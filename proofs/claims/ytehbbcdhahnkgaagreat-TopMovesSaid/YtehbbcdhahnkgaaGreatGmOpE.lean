/- The ghost machine and the machine: new objects, stores. -/
import Derived.Test.YtehbbcdhahnkgaaGreatGmOpD
import Derived.Great.BuildSlice
import Derived.Laws.MakeOwn
set_option linter.unusedVariables false
set_option linter.unusedSimpArgs false
namespace Go.Proofs.YtehbbcdhahnkgaaGreat
open Go
section
variable {P : Program} {Γ : Ctx} {E : Env} {N : Nat} {U : Nat → Prop} {ob : Nat → Value} {Z : Nat → Prop} {s : GS} {a : Act} {w : World} {ws : List Wr} {o : Oper} {fresh : Nat} {Q : Exit → Act → World → Prop}

theorem Kept.alloc (w : World) (x : Obj) : Kept (fun _ => False) w (w.alloc x) := ⟨rfl, rfl, rfl, by simp, fun k hk _ => Go.heap_alloc_old w x k hk⟩
theorem Kept.drew (w : World) : Kept (fun _ => False) w w.drew := ⟨rfl, rfl, rfl, Nat.le_refl _, fun _ _ _ => rfl⟩
theorem RepAt.step (h : RepAt E N U ob Z s a w) {w' : World} (hk : Kept (fun _ => False) w w') : RepAt E N U ob Z s a w' :=
 h.world hk (fun _ _ h => h) (fun _ h => h.elim) (fun _ _ _ _ _ h => h)
theorem RepAt.newBlock (h : RepAt E N U ob Z s a w) {i : Nat} (hi : ¬ U i) (x : Obj) {v : Value} {ob1 : Ob} (hb : blk v = some w.heap.size) (ho : OR (w.alloc x) Z (fun j => if j = i then v else ob j) i ob1) (hids : ob1.ids U) :
  RepAt E N (fun j => U j ∨ j = i) (fun j => if j = i then v else ob j) Z (s.put (.obj i (some ob1))) a (w.alloc x) := by
 refine (h.step (Kept.alloc w x)).newObj hi ho hids fun _ b hbb => ?_
 rw [hb] at hbb; cases hbb
 refine ⟨fun hz => Nat.lt_irrefl _ (h.zlt _ hz), .inr h.kept.size, fun j o2 hj _ hbj => ?_⟩
 exact Nat.lt_irrefl _ ((h.objs j o2 hj).2.1.block_lt _ hbj)
theorem RepAt.newBox (h : RepAt E N U ob Z s a w) {i : Nat} (hi : ¬ U i) {e : Nat} {t : Ty} {x : t.den} {cs : Array Value} (hd : DR w Z t x cs.toList) :
  RepAt E N (fun j => U j ∨ j = i) (fun j => if j = i then .pointer (some ⟨w.heap.size, 0, none⟩) else ob j) Z (s.put (.obj i (some (.box e t x true)))) a (w.alloc (.cells cs e)) := by
 refine h.newBlock hi (.cells cs e) rfl ?_ trivial
 exact ⟨w.heap.size, cs.toList, by simp, hd.mono ((Kept.alloc w _).same fun _ _ h => h) (fun _ h => h), by simpa using Go.heap_alloc_new w (.cells cs e), fun h => by cases h⟩
theorem RepAt.newVBox (h : RepAt E N U ob Z s a w) {i : Nat} (hi : ¬ U i) {e : Nat} {v : SV} {u : Value} (hv : SR w Z ob v u) (hids : v.ids U) (h1 : u.oneCell' = true) :
  RepAt E N (fun j => U j ∨ j = i) (fun j => if j = i then .pointer (some ⟨w.heap.size, 0, none⟩) else ob j) Z (s.put (.obj i (some (.vbox e v)))) a (w.alloc (.cells #[u] e)) := by
 refine h.newBlock hi (.cells #[u] e) rfl ?_ hids
 exact ⟨w.heap.size, u, by simp, hv.mono ((Kept.alloc w _).same fun _ _ h => h) (fun _ h => h) (fun j hj => if_neg fun e : j = i => hi (e ▸ hj)) hids, Go.heap_alloc_new w _, h1⟩
theorem RepAt.newSBox (h : RepAt E N U ob Z s a w) {i : Nat} (hi : ¬ U i) {e : Nat} {t : Ty} {x : t.den} {cs : Array Value} {f : Nat} {v : SV} {u : Value} {kt : Ty} (hd : DR w Z t x cs.toList) (hv : SR w Z ob v u) (hids : v.ids U) (h1 : u.oneCell' = true) (hk : fldTy t f = some (.sl kt)) (hu : cs.toList[fldOff t f]? = some u) :
  RepAt E N (fun j => U j ∨ j = i) (fun j => if j = i then .pointer (some ⟨w.heap.size, 0, none⟩) else ob j) Z (s.put (.obj i (some (.sbox e t x f v)))) a (w.alloc (.cells cs e)) := by
 refine h.newBlock hi (.cells cs e) rfl ?_ hids
 refine ⟨w.heap.size, cs.toList, u, by simp, hd.mono ((Kept.alloc w _).same fun _ _ h => h) (fun _ h => h), hv.mono ((Kept.alloc w _).same fun _ _ h => h) (fun _ h => h) (fun j hj => if_neg fun e : j = i => hi (e ▸ hj)) hids, ?_, h1, kt, hk⟩
 rw [set_same hu]
 simpa using Go.heap_alloc_new w (.cells cs e)
theorem RepAt.newRow (h : RepAt E N U ob Z s a w) {i : Nat} (hi : ¬ U i) {e : Nat} {t : Ty} {xs : List t.den} {uss : List (List Value)} {cs : Array Value} {cap : Nat} (hd : All2 (DR w Z t) xs uss) (hc : cs.size = cap * t.size) (hcap : xs.length ≤ cap) (hmax : cap ≤ maxLen)
  (ht : cs.toList.take (xs.length * t.size) = uss.flatten) :
  RepAt E N (fun j => U j ∨ j = i) (fun j => if j = i then .slice (some ⟨w.heap.size, 0, none⟩) xs.length cap else ob j) Z (s.put (.obj i (some (.row e t xs true)))) a (w.alloc (.cells cs e)) := by
 refine h.newBlock hi (.cells cs e) rfl ?_ trivial
 refine ⟨uss, hd.mono fun _ _ hd => hd.mono ((Kept.alloc w _).same fun _ _ h => h) (fun _ h => h), ⟨hd.flatD, .inr ⟨w.heap.size, cap, cs, by simp, Nat.zero_le _, Go.heap_alloc_new w _, hcap, hmax, hc, ht⟩⟩, fun h => by cases h⟩

theorem ownF_fld {ti : TI} {f : Nat} (h : ownF ti = some f) : ∃ kt, fldTy ti.ty f = some (.sl kt) := by
 unfold ownF at h
 split at h
 ·cases h
 ·split at h
  ·rename_i hty
   split at h
   ·rename_i kt hk
    cases h
    exact ⟨kt, by rw [hty]; exact hk⟩
   ·cases h
  ·cases h
theorem zc_len (t : Ty) : (zc t).length = t.size := (DR.zero (w := default) (Z := fun _ => False) t).len
theorem zc_fld : ∀ {t : Ty} {f : Nat} {k : Ty}, fldTy t f = some (.sl k) → (zc t)[fldOff t f]? = some (.slice none 0 0)
 | .pair a b, 0, k, h => by simp only [fldTy] at h; cases a <;> simp [viewTy] at h <;> simp [zc, fldOff]
 | .pair a b, f + 1, k, h => by
  simp only [fldTy] at h
  have := zc_fld (t := b) h
  simp only [zc, fldOff]
  rw [List.getElem?_append_right (by rw [zc_len]; omega), zc_len, Nat.add_sub_cancel_left]
  exact this
 | .bool, _, _, h | .i64, _, _, h | .u8, _, _, h | .u16, _, _, h | .u32, _, _, h | .u64, _, _, h | .str, _, _, h | .unit, _, _, h | .sl _, _, _, h | .arr _ _, _, _, h | .trees, _, _, h => by simp [fldTy] at h
theorem fresh_in {fresh : Nat} {U : Nat → Prop} : ∀ j, (U j ∨ j = fresh) → U j ∨ (fresh ≤ j ∧ j < fresh + 4) := fun j h => h.imp id fun e => by omega

theorem zero_cells {i : TypeId} {ti : TI} (h : TOk P i ti) : ∃ z, (zeroValue i).run P w = .ok z w ∧ z.cells.toList = zc ti.ty := by
 obtain ⟨x, h1, h2, _⟩ := h.parts
 exact ⟨_, by simp [zeroValue, typeInfo, h1, h2], pk_cells (DR.zero (w := w) (Z := fun _ => False) ti.ty)⟩

theorem row_DR {Z' : Nat → Prop} {i e : Nat} {t : Ty} {xs : List t.den} {own : Bool} (h : OR w Z ob i (.row e t xs own)) (hz : ∀ b, Z b → Z' b) (hb : ∀ b, blk (ob i) = some b → Z' b) : DR w Z' (.sl t) xs [ob i] := by
 obtain ⟨uss, h1, h2, _⟩ := h
 rcases h2.2 with ⟨hv, hn⟩ | ⟨g, cap, cur, hv, _, hg, hnc, hcm, hcs, ht⟩
 ·refine ⟨none, 0, by rw [hv, hn], by omega, by simp [maxLen], fun hp => by omega⟩
 ·refine ⟨_, cap, by rw [hv], hnc, hcm, fun hp => ⟨g, 0, uss, rfl, hb g (by rw [hv]; rfl), (Array.getElem?_eq_some_iff.1 hg).1, h1.mono fun _ _ hd => hd.mono (Same.refl _ _) hz, fun j u hu => ?_⟩⟩
  rw [cell_of_row w g _ _ e (0, 0) hg, ← Array.getElem?_toList, Nat.zero_add]
  rw [← ht, List.getElem?_take] at hu
  split at hu
  ·exact hu
  ·cases hu

structure Colder (s s1 : GS) : Prop where
 slots : s1.slots = s.slots
 objs : ∀ i o, look i s.objs = some o → look i s1.objs = some o ∨ look i s1.objs = some o.cold
theorem Colder.refl (s : GS) : Colder s s := ⟨rfl, fun _ _ h => .inl h⟩

theorem dataR_ok {v : SV} {vv : Value} {t : Ty} {k : t.den → List Wr → RT} {s1 : GS} (h : RepAt E N U ob Z s1 a w) (hc : Colder s s1) (hv : SR w Z ob v vv) (hvi : v.ids U) (hr : (dataR v t k).run s = some ws) :
  ∃ x ws1 Z', (k x ws1).run s = some ws ∧ (∃ vs, DR w Z' t x vs ∧ vv = pk t vs) ∧ RepAt E N U ob Z' (s1.app ws1) a w ∧ (∀ b, Z b → Z' b) ∧ Colder s (s1.app ws1) ∧ (∀ j, notRow j v = true → look j (s1.app ws1).objs = look j s1.objs) := by
 unfold dataR at hr
 split at hr
 ·split at hr
  ·rename_i hcast
   obtain ⟨hte, hy⟩ := tcast_some hcast
   subst hte
   simp only at hy; subst hy
   exact ⟨_, [], Z, hr, hv, h, fun _ h => h, hc, fun _ _ => rfl⟩
  ·exact run_fail hr
 ·split at hr
  ·rename_i hcast
   obtain ⟨hte, hy⟩ := tcast_some hcast
   subst hte
   simp only at hy; subst hy
   obtain ⟨vs, hv1, hv2, _⟩ := hv
   exact ⟨_, [], Z, hr, ⟨vs, hv1, hv2⟩, h, fun _ h => h, hc, fun _ _ => rfl⟩
  ·exact run_fail hr
 ·split at hr
  ·refine ⟨_, [], Z, hr, ⟨[.slice none 0 0], ⟨none, 0, rfl, by simp, by simp [maxLen], fun hp => absurd hp (by simp)⟩, hv⟩, h, fun _ h => h, hc, fun _ _ => rfl⟩
  ·exact run_fail hr
 ·rename_i i
  replace hr := run_obj hr
  obtain ⟨o', hl, hr⟩ := hr
  split at hr
  ·rename_i e t' xs own
   split at hr
   ·rename_i y hcast
    obtain ⟨hte, hy⟩ := tcast_some hcast
    subst hte
    simp only at hy; subst hy
    have hl1 : ∃ own', look i s1.objs = some (.row e t' xs own') := by
     rcases hc.objs i _ hl with h1 | h1
     ·exact ⟨_, h1⟩
     ·exact ⟨_, h1⟩
    obtain ⟨own', hl1⟩ := hl1
    have hcold := h.cold hl1 rfl
    refine ⟨_, _, _, hr, ⟨[ob i], row_DR (h.objs _ _ hl1).2.1 (fun _ h => .inl h) (fun _ h => .inr h), ?_⟩, hcold, fun _ h => .inl h, ⟨hc.slots, fun j o2 hj => ?_⟩, fun j hj => ?_⟩
    ·rw [pk_one rfl]; exact hv
    ·by_cases e2 : j = i
     ·subst e2
      rw [hl] at hj; cases hj
      exact .inr (by simp only [GS.app, List.foldl_cons, List.foldl_nil, GS.put, look_lput_same]; rfl)
     ·simp only [GS.app, List.foldl_cons, List.foldl_nil, GS.put, look_lput_ne e2]
      exact hc.objs j o2 hj
    ·have hne : j ≠ i := fun e => by subst e; simp [notRow] at hj
     simp only [GS.app, List.foldl_cons, List.foldl_nil, GS.put, look_lput_ne hne]
   ·exact run_fail hr
  ·exact run_fail hr
 ·exact run_fail hr

theorem ref_pval {g : Nat} {T : Ty} {p : List PS} (h : rval (.pointer (some ⟨g, 0, none⟩)) T p) : pval p T := by
 cases T <;> (try exact h)
 cases p with
 | nil => exact h.elim
 | cons q p => cases q <;> simp [rval, slen] at h
theorem fldTy_off : ∀ {t : Ty} {k : Nat} {u : Ty}, fldTy t k = some u → fldOff t k + u.size ≤ t.size
 | .pair a b, 0, u, h => by simp only [fldTy] at h; cases h; simp [fldOff, Ty.size, view_size]
 | .pair a b, k + 1, u, h => by simp only [fldTy] at h; have := fldTy_off (t := b) (k := k) h; simp only [fldOff, Ty.size]; omega
 | .bool, _, _, h | .i64, _, _, h | .u8, _, _, h | .u16, _, _, h | .u32, _, _, h | .u64, _, _, h | .str, _, _, h | .unit, _, _, h | .sl _, _, _, h | .arr _ _, _, _, h | .trees, _, _, h => by simp [fldTy] at h

theorem loadR_ok {i : TypeId} {t : Ty} {v : SV} {vv : Value} {k : SV → List Wr → RT} (h : RepAt E N U ob Z s a w) (he : EOk P i t) (hv : SR w Z ob v vv) (hr : (loadR i t v k).run s = some ws) :
  ∃ r z ws1 Z', (k r ws1).run s = some ws ∧ SR w Z' ob r z ∧ r.ids U ∧ (Instr.loadAt i vv).run P w = .ok z w ∧ RepAt E N U ob Z' (s.app ws1) a w := by
 unfold loadR at hr
 split at hr
 ·rename_i t' x
  split at hr
  ·rename_i y hc
   obtain ⟨hte, hy⟩ := tcast_some hc
   subst hte
   simp only at hy; subst hy
   obtain ⟨b, off, vs, h1, h2, h3, h4, h5⟩ := hv
   exact ⟨_, _, [], Z, hr, ⟨vs, h4, rfl⟩, trivial, by rw [h1]; exact run_loadDR he h4 h5, h⟩
  ·exact run_fail hr
 ·rename_i id T p
  replace hr := run_obj hr
  obtain ⟨ob', hl, hr⟩ := hr
  obtain ⟨hU, hOR, hids⟩ := h.objs _ _ hl
  split at hr
  ·rename_i e v
   split at hr
   ·replace hr := run_cond hr
    obtain ⟨hc, hr⟩ := hr
    simp only [Bool.and_eq_true, Bool.not_eq_true'] at hc
    obtain ⟨g, u, h1, h2, h3, h4⟩ := hOR
    obtain ⟨g', h5, h6, h7⟩ := hv
    rw [h1] at h5; cases h5
    refine ⟨v, u, [], Z, hr, h2, hids, ?_, h⟩
    have hcell : w.cell? ⟨g, 0, none⟩ = some u := by rw [cell_of_row w g 0 _ e (0, 0) h3]; rfl
    rw [h6]
    simp only [poff, Instr.loadAt, Instr.sureAddr, loadVar, Sem.run_bind, Sem.run_pure, Result.andThen_ok, run_isAgg he, hc.2, Bool.false_eq_true, if_false, Go.run_load, hcell]
   ·exact run_fail hr
  ·rename_i e T' x own
   split at hr
   ·rename_i z hc
    obtain ⟨hte, hz⟩ := tcast_some hc
    subst hte
    simp only at hz; subst hz
    split at hr
    ·rename_i y hy
     split at hr
     ·rename_i y' hc'
      obtain ⟨y1, y2⟩ := y
      obtain ⟨hte, hz⟩ := tcast_some hc'
      simp only at hte
      subst hte
      simp only at hz; subst hz
      obtain ⟨g, us, vs, h1, _, h2, h3, _⟩ := box_part hOR hv hy
      exact ⟨_, _, [], Z, hr, ⟨us, h2, rfl⟩, trivial, by rw [h1]; exact run_loadDR he h2 h3, h⟩
     ·exact run_fail hr
    ·exact run_fail hr
   ·exact run_fail hr
  ·rename_i e T' xs own
   split at hr
   ·rename_i z hc
    obtain ⟨hte, hz⟩ := tcast_some hc
    subst hte
    simp only at hz; subst hz
    split at hr
    ·rename_i y hy
     split at hr
     ·rename_i y' hc'
      obtain ⟨y1, y2⟩ := y
      obtain ⟨hte, hz⟩ := tcast_some hc'
      simp only at hte
      subst hte
      simp only at hz; subst hz
      obtain ⟨g, us, uss, cap, cur, k, q, h1, _, h2, h3, _⟩ := row_part hOR hv hy
      exact ⟨_, _, [], Z, hr, ⟨us, h2, rfl⟩, trivial, by rw [h1]; exact run_loadDR he h2 h3, h⟩
     ·exact run_fail hr
    ·exact run_fail hr
   ·exact run_fail hr
  ·rename_i e T' x f v'
   split at hr
   ·rename_i z hc
    obtain ⟨hte, hz⟩ := tcast_some hc
    subst hte
    simp only at hz; subst hz
    obtain ⟨g, vs, u, q1, q2, q3, q4, q5, kt, q6⟩ := hOR
    obtain ⟨g', h5, h6, h7⟩ := hv
    rw [q1] at h5 h7; cases h5
    have hp := ref_pval h7
    have hoff := fldTy_off q6
    have hvl := q2.len
    have hoff' : fldOff T' f < vs.length := by rw [hvl]; simp only [Ty.size] at hoff; omega
    split at hr
    ·split at hr
     ·rename_i ut hut
      rw [q6] at hut; cases hut
      replace hr := dataR_ok h (Colder.refl s) q3 hids hr
      obtain ⟨y, ws1, Z', hr, ⟨vs1, d1, d2⟩, d3, d4, d5, _⟩ := hr
      split at hr
      ·rename_i z' hset
       split at hr
       ·rename_i z2 hc2
        obtain ⟨hte2, hzz⟩ := tcast_some hc2
        subst hte2
        simp only at hzz; subst hzz
        obtain ⟨u1, rfl⟩ := d1.single rfl
        rw [pk_one rfl] at d2; subst d2
        obtain ⟨s1, _, _⟩ := setFld_DR (q2.mono (Same.refl _ _) d4) hset d1
        rw [repl_single hoff'] at s1
        refine ⟨_, _, ws1, Z', hr, ⟨_, s1, rfl⟩, trivial, ?_, d3⟩
        rw [h6]
        simp only [poff]
        refine run_loadDR (off := 0) he s1 fun j u' hu => ?_
        rw [cell_of_row w g _ _ e (0, 0) q4]
        simpa using hu
       ·exact run_fail hr
      ·exact run_fail hr
     ·exact run_fail hr
    ·rename_i f' q
     obtain ⟨fu, hfu, hpq⟩ := hp
     split at hr
     ·rename_i hb
      have hb := Nat.eq_of_beq_eq_true hb
      subst hb
      split at hr
      ·cases hta : t.isAgg <;> rw [hta] at hr <;> simp only [cond_true, cond_false] at hr
       ·refine ⟨_, _, [], Z, hr, q3, hids, ?_, h⟩
        have hcell : w.cell? ⟨g, fldOff T' f', none⟩ = some u := by
         rw [cell_of_row w g _ _ e (0, 0) q4]
         simp [hoff']
        rw [h6]
        simp only [poff, hfu, Nat.add_zero, Instr.loadAt, Instr.sureAddr, loadVar, Sem.run_bind, Sem.run_pure, Result.andThen_ok, run_isAgg he, hta, Bool.false_eq_true, if_false, Go.run_load, hcell]
       ·exact run_fail hr
      ·exact run_fail hr
     ·rename_i hb
      have hne : f ≠ f' := fun e => by subst e; rw [nbeq_self] at hb; cases hb
      split at hr
      ·rename_i y hy
       split at hr
       ·rename_i y' hc'
        obtain ⟨y1, y2⟩ := y
        obtain ⟨hte2, hzz⟩ := tcast_some hc'
        simp only at hte2
        subst hte2
        simp only at hzz; subst hzz
        simp only [getP] at hy
        cases hf : T'.fld x f' with
        | none => rw [hf] at hy; cases hy
        | some y0 =>
         rw [hf] at hy
         simp only at hy
         have hfy := fld_some hf
         rw [hfu] at hfy; cases hfy
         obtain ⟨us0, a1, a2, a3⟩ := fld_DR q2 hf
         obtain ⟨us, a4, a5, a6⟩ := getP_DR hpq a1 hy
         refine ⟨_, _, [], Z, hr, ⟨us, a4, rfl⟩, trivial, ?_, h⟩
         rw [h6]
         refine run_loadDR he a4 fun j u' hu' => ?_
         have hj : j < us.length := (List.getElem?_eq_some_iff.1 hu').1
         have hl0 := a1.len
         have hn : fldOff T' f ≠ fldOff T' f' + poff q y0.1 + j := by
          rcases fld_apart q6 hfu hne with ha | ha
          ·simp only [Ty.size] at ha; omega
          ·omega
         rw [cell_of_row w g _ _ e (0, 0) q4]
         simp only [poff, hfu, List.getElem?_toArray]
         rw [List.getElem?_set_ne hn, Nat.add_assoc]
         exact a2 _ _ (a5 j u' hu')
       ·exact run_fail hr
      ·exact run_fail hr
    ·exact run_fail hr
   ·exact run_fail hr
  ·rename_i e T' c m f r
   split at hr
   ·rename_i j f'
    replace hr := run_chk hr
    obtain ⟨hc1, hr⟩ := hr
    replace hr := run_cond hr
    obtain ⟨hc, hr⟩ := hr
    simp only [Bool.and_eq_true, Bool.not_eq_true'] at hc
    obtain ⟨⟨hc2, hta⟩, hc3⟩ := hc
    have hc1 := Nat.eq_of_beq_eq_true hc1
    have hc2 := Nat.eq_of_beq_eq_true hc2
    have hc3 := Ty.same_eq hc3
    subst hc1 hc2 hc3
    obtain ⟨uss, q1, q2, q3, q4, kt, q5⟩ := hOR
    obtain ⟨g', h5, h6, h7, fu, h8, h9⟩ := hv
    obtain ⟨g, cap, cur, q9, q10, q11, q12, q13, q14⟩ := row_ownL q3 (by omega)
    rw [q9] at h5; cases h5
    rw [q5] at h8; cases h8
    refine ⟨.row r, ob r, [], Z, hr, rfl, hids, ?_, h⟩
    have hoff := fldTy_off q5
    simp only [Ty.size] at hoff
    have hlt : j * T'.size + fldOff T' f' < uss.flatten.length := by
     rw [q1.flatD]
     have : (j + 1) * T'.size ≤ c.length * T'.size := Nat.mul_le_mul_right _ q2
     rw [Nat.add_mul] at this
     omega
    have hcell : w.cell? ⟨g, j * T'.size + fldOff T' f', none⟩ = some (ob r) := by
     rw [cell_of_row w g _ _ e (0, 0) q10, ← Array.getElem?_toList]
     have : (uss.flatten.set (j * T'.size + fldOff T' f') (ob r))[j * T'.size + fldOff T' f']? = some (ob r) := by rw [List.getElem?_set_self hlt]
     rw [← q14, List.getElem?_take] at this
     split at this
     ·exact this
     ·cases this
    rw [h6]
    simp only [poff, q5, Nat.add_zero, Instr.loadAt, Instr.sureAddr, loadVar, Sem.run_bind, Sem.run_pure, Result.andThen_ok, run_isAgg he, hta, Bool.false_eq_true, if_false, Go.run_load, hcell]
   ·exact run_fail hr
  ·exact run_fail hr
 ·exact run_fail hr

theorem op_load (hT : TysOk P Γ) (hI : IfOk P Γ.ifs) (h : RepAt E Γ.N U ob Z s a w) (hg : E.globs = Γ.globs) {t : TypeId} {x : Operand} (ho : o.op = .load t x) (hr : (evalOp Γ fresh o).run s = some ws) :
  o.wp P a w (After E Γ.N U fresh s ws) Q := by
 simp only [evalOp, ho] at hr
 have hr' : ∃ ty, EOk P t ty ∧ (svR Γ x fun v => loadR t ty v fun u ws => dstR Γ o (.sv u) ws).run s = some ws := by
  split at hr
  ·rename_i hp
   exact ⟨_, hI.ptr t hp, hr⟩
  ·replace hr := tyR_ok hr
   obtain ⟨ti, hl, hr⟩ := hr
   exact ⟨_, (hT _ _ hl).eok, hr⟩
 clear hr
 obtain ⟨ty, hl, hr⟩ := hr'
 replace hr := svR_ok h hg hr
 obtain ⟨v, h1, h2, hr⟩ := hr
 replace hr := loadR_ok (P := P) h hl h1 hr
 obtain ⟨r, z, ws1, Z', hr, h3, h4, h5, h6⟩ := hr
 refine fin_val ?_ h6 (vr h3) h4 (fun _ h => .inl h) hr
 simp only [execOp, ho]
 rw [Sem.run_bind, h5]
 rfl

theorem op_alloc (hT : TysOk P Γ) (h : RepAt E Γ.N U ob Z s a w) (hf : ∀ j, fresh ≤ j → j < fresh + 4 → ¬ U j) {e : TypeId} (ho : o.op = .alloc e) (hr : (evalOp Γ fresh o).run s = some ws) :
  o.wp P a w (After E Γ.N U fresh s ws) Q := by
 simp only [evalOp, ho] at hr
 replace hr := tyR_ok hr
 obtain ⟨ti, hl, hr⟩ := hr
 have hti := hT _ _ hl
 have hf0 := hf fresh (Nat.le_refl _) (by omega)
 obtain ⟨z, hz, hzc⟩ := zero_cells (w := w) hti
 have hx : (execOp a.eval o).run P w = .ok (.value (.pointer (some ⟨w.heap.size, 0, none⟩))) (w.alloc (.cells z.cells e)) := by
  simp only [execOp, ho, Instr.alloc, Sem.run_bind, hz, Result.andThen_ok, newVar, newRow, run_newObj, Sem.run_pure]
  rfl
 split at hr
 ·rename_i t' hty
  rw [hty] at hzc
  have hz1 : z.cells = #[.slice none 0 0] := by apply Array.toList_inj.1; rw [hzc]; rfl
  rw [hz1] at hx
  refine fin_val hx (h.newVBox hf0 (v := .nil) (u := .slice none 0 0) rfl trivial rfl) (vr (v := .ref fresh .unit []) ⟨w.heap.size, by simp [blk], rfl, trivial⟩) (.inr rfl) fresh_in hr
 ·rename_i t' hty
  split at hr
  ·rename_i f hof
   obtain ⟨kt, hkt⟩ := ownF_fld hof
   have hoff := fldTy_off hkt
   have hzn := zc_fld hkt
   refine fin_val hx (h.newSBox hf0 (t := ti.ty) (x := ti.ty.zero) (cs := z.cells) (f := f) (v := .nil) (u := .slice none 0 0) (by rw [hzc]; exact DR.zero _) rfl trivial rfl hkt (by rw [hzc]; exact hzn)) (vr (v := .ref fresh ti.ty []) ⟨w.heap.size, by simp [blk], rfl, ?_⟩) (.inr rfl) fresh_in hr
   cases hq : ti.ty <;> simp [rval, pval]
   exact hty _ hq
  ·refine fin_val hx (h.newBox hf0 (t := ti.ty) (x := ti.ty.zero) (by rw [hzc]; exact DR.zero _)) (vr (v := .ref fresh ti.ty []) ⟨w.heap.size, by simp [blk], rfl, ?_⟩) (.inr rfl) fresh_in hr
   cases hq : ti.ty <;> simp [rval, pval]
   exact hty _ hq

theorem slR_ok {v : SV} {u : Value} {k : RT} (h : RepAt E N U ob Z s a w) (hv : SR w Z ob v u) (hr : (slR v k).run s = some ws) : k.run s = some ws ∧ u.oneCell' = true ∧ u.cells = #[u] := by
 have key : ∀ A n c, u = .slice A n c → u.oneCell' = true ∧ u.cells = #[u] := fun A n c e => by subst e; exact ⟨rfl, rfl⟩
 unfold slR at hr
 split at hr
 ·exact ⟨hr, key _ _ _ hv⟩
 ·obtain ⟨vs, ⟨A, c, rfl, _⟩, e⟩ := hv
  rw [pk_one rfl] at e
  exact ⟨hr, key _ _ _ e⟩
 ·rename_i i
  replace hr := run_obj hr
  obtain ⟨o', hl, hr⟩ := hr
  split at hr
  ·obtain ⟨uss, _, h2, _⟩ := (h.objs _ _ hl).2.1
   have hv' : u = ob i := hv
   rcases h2.2 with ⟨e, _⟩ | ⟨g, cap, cur, e, _⟩
   ·exact ⟨hr, key _ _ _ (hv'.trans e)⟩
   ·exact ⟨hr, key _ _ _ (hv'.trans e)⟩
  ·exact run_fail hr
 ·exact run_fail hr

theorem op_box (hT : TysOk P Γ) (h : RepAt E Γ.N U ob Z s a w) (hg : E.globs = Γ.globs) (hf : ∀ j, fresh ≤ j → j < fresh + 4 → ¬ U j) {e : TypeId} {x : Operand} (ho : o.op = .box e x) (hr : (evalOp Γ fresh o).run s = some ws) :
  o.wp P a w (After E Γ.N U fresh s ws) Q := by
 simp only [evalOp, ho] at hr
 split at hr
 ·replace hr := svR_ok h hg hr
  obtain ⟨v, h1, h2, hr⟩ := hr
  split at hr
  ·obtain ⟨vs, h3, h4⟩ := h1
   have h3' : vs = [] := h3
   have hcs : (a.eval x).cells = #[] := by rw [h4, h3']; rfl
   have hx : (execOp a.eval o).run P w = .ok (.value (.pointer (some ⟨w.heap.size, 0, none⟩))) (w.alloc (.cells (a.eval x).cells e)) := by
    simp only [execOp, ho, Instr.box, Sem.run_bind, Result.andThen_ok, newVar, newRow, run_newObj, Sem.run_pure]
    rfl
   have h8 := h.newBox (hf fresh (Nat.le_refl _) (by omega)) (e := e) (t := .unit) (x := ()) (cs := (a.eval x).cells) (by rw [hcs]; rfl)
   exact fin_val hx h8 (vr (v := .ref fresh .unit []) ⟨w.heap.size, by simp [blk], rfl, trivial⟩) (.inr rfl) fresh_in hr
  ·exact run_fail hr
 have hf0 := hf fresh (Nat.le_refl _) (by omega)
 have hx : (execOp a.eval o).run P w = .ok (.value (.pointer (some ⟨w.heap.size, 0, none⟩))) (w.alloc (.cells (a.eval x).cells e)) := by
  simp only [execOp, ho, Instr.box, Sem.run_bind, Result.andThen_ok, newVar, newRow, run_newObj, Sem.run_pure]
  rfl
 split at hr
 ·replace hr := svR_ok h hg hr
  obtain ⟨v, h1, h2, hr⟩ := hr
  split at hr
  ·obtain ⟨g, q1, q2, q3⟩ := id h1
   have hc : (a.eval x).cells = #[a.eval x] := by rw [q2]; rfl
   rw [hc] at hx
   exact fin_val hx (h.newVBox hf0 h1 h2 (by rw [q2]; rfl)) (vr (v := .ref fresh .unit []) ⟨w.heap.size, by simp [blk], rfl, trivial⟩) (.inr rfl) fresh_in hr
  ·exact run_fail hr
 replace hr := tyR_ok hr
 obtain ⟨ti, hl, hr⟩ := hr
 replace hr := svR_ok h hg hr
 obtain ⟨v, h1, h2, hr⟩ := hr
 have hti := hT _ _ hl
 split at hr
 ·rename_i t' hty
  obtain ⟨hr, h3, h4⟩ := slR_ok h h1 hr
  rw [h4] at hx
  exact fin_val hx (h.newVBox hf0 h1 h2 h3) (vr (v := .ref fresh .unit []) ⟨w.heap.size, by simp [blk], rfl, trivial⟩) (.inr rfl) fresh_in hr
 ·rename_i t' hty
  replace hr := dataR_ok h (Colder.refl s) h1 h2 hr
  obtain ⟨y, ws1, Z', hr, ⟨vs, h3, h4⟩, h5, h6, h7, _⟩ := hr
  have hcs : (a.eval x).cells.toList = vs := by rw [h4]; exact pk_cells h3
  have h8 := h5.newBox hf0 (e := e) (t := ti.ty) (x := y) (cs := (a.eval x).cells) (by rw [hcs]; exact h3)
  rw [← app_snoc] at h8
  refine fin_val hx h8 (vr (v := .ref fresh ti.ty []) ⟨w.heap.size, by simp [blk], rfl, ?_⟩) (.inr rfl) fresh_in hr
  cases hq : ti.ty <;> simp [rval, pval]
  exact hty _ hq

theorem repl_take {l us : List Value} {o m : Nat} (h : o + us.length ≤ m) (hm : m ≤ l.length) : (repl l us o).take m = repl (l.take m) us o := by
 unfold repl
 apply List.ext_getElem?
 intro j
 simp only [List.getElem?_take, List.getElem?_append, List.length_append, List.length_take, List.length_drop, List.getElem?_drop]
 have h1 : min o l.length = o := by omega
 have h2 : min o (min m l.length) = o := by omega
 simp only [h1, h2]
 by_cases c : j < m
 ·simp only [if_pos c]
  by_cases c1 : j < o
  ·simp [c1, c, show j < o + us.length by omega]
  ·by_cases c2 : j < o + us.length
   ·simp [c1, c2]
   ·simp [c1, c2, show o + us.length + (j - (o + us.length)) < m by omega]
 ·simp [c, show ¬ j < o + us.length by omega, show ¬ o + us.length + (j - (o + us.length)) < m by omega]
theorem setRow_kept (w : World) (g : Nat) (cs : Array Value) : Kept (fun b => some g = some b) w (w.setRow g cs) :=
 ⟨rfl, rfl, rfl, by simp [World.setRow], fun k hk hn => Go.setRow_other w g k cs fun e => hn (by rw [e])⟩

theorem run_storeAt {e : TypeId} {t : Ty} {x : t.den} {us : List Value} {g off : Nat} {et : TypeId} {cur : Array Value} (he : EOk P e t) (hd : DR w Z t x us) (hg : w.heap[g]? = some (.cells cur et (0, 0))) (hl : off + us.length ≤ cur.size) :
  (Instr.storeAt e (.pointer (some ⟨g, off, none⟩)) (pk t us)).run P w = .ok () (w.setRow g (repl cur.toList us off).toArray) := by
 have hst := run_storeCells_at P g off et us 0 cur w hg (by simpa using hl) (fun v hv => hd.one v hv)
 simp only [Nat.add_zero] at hst
 have hcl : (pk t us).cells.toList = us := pk_cells hd
 have hsz : (pk t us).cells.size = t.size := by rw [← Array.length_toList, hcl, hd.len]
 simp only [Instr.storeAt, Instr.sureAddr, storeVar, Sem.run_bind, Sem.run_pure, Result.andThen_ok, run_sizeOf he, hsz, ne_eq, not_true_eq_false, if_false, hcl]
 exact hst

theorem storeR_ok {i : TypeId} {ti : TI} {av vv : SV} {x y : Value} {k : List Wr → RT} (h : RepAt E N U ob Z s a w) (he : TOk P i ti) (hav : SR w Z ob av x) (hvv : SR w Z ob vv y) (hvi : vv.ids U) (hr : (storeR i ti.ty av vv k).run s = some ws) :
  ∃ ws1 Z' w', (k ws1).run s = some ws ∧ (Instr.storeAt i x y).run P w = .ok () w' ∧ RepAt E N U ob Z' (s.app ws1) a w' := by
 unfold storeR at hr
 split at hr
 ·rename_i id T p
  replace hr := run_obj hr
  obtain ⟨o', hl, hr⟩ := hr
  split at hr
  ·rename_i e v0
   split at hr
   ·replace hr := run_cond hr
    obtain ⟨hc, hr⟩ := hr
    simp only [Bool.and_eq_true] at hc
    obtain ⟨hr, h3, h4⟩ := slR_ok h hvv hr
    obtain ⟨g, u, h5, h6, h7, h8⟩ := (h.objs _ _ hl).2.1
    obtain ⟨g', h9, h10, _⟩ := hav
    rw [h5] at h9; cases h9
    have hst := run_storeCells_at P g 0 e [y] 0 #[u] w h7 (by simp) (by simpa using h3)
    have hs1 : ti.ty.size = 1 := Nat.eq_of_beq_eq_true hc.2
    refine ⟨_, Z, w.setRow g #[y], hr, ?_, ?_⟩
    ·rw [h10]
     simp only [poff, Instr.storeAt, Instr.sureAddr, storeVar, Sem.run_bind, Sem.run_pure, Result.andThen_ok, run_sizeOf he.eok, h4, hs1, ne_eq]
     rw [if_neg (by simp)]
     exact hst
    ·have hk : Kept (fun b => blk (ob id) = some b) w (w.setRow g #[y]) := by rw [h5]; exact setRow_kept w g _
     refine h.setObj hl rfl hk ⟨g, y, h5, ?_, Go.setRow_heap w g _ _ e (0, 0) h7, h3⟩ hvi rfl
     exact hvv.mono (hk.same fun b hZ hb => (h.own _ _ hl rfl b hb).1 hZ) (fun _ h => h) (fun _ _ => rfl) hvi
   ·exact run_fail hr
  ·rename_i e T' x0 f u0
   split at hr
   ·rename_i z hc
    obtain ⟨hte, hz⟩ := tcast_some hc
    subst hte
    simp only at hz; subst hz
    obtain ⟨g, vs, u, q1, q2, q3, q4, q5, kt, q6⟩ := (h.objs _ _ hl).2.1
    have hid0 := (h.objs _ _ hl).2.2
    obtain ⟨g', h5, h6, h7⟩ := hav
    rw [q1] at h5 h7; cases h5
    have hp := ref_pval h7
    have hoff := fldTy_off q6
    have hvl := q2.len
    have hoff' : fldOff T' f < vs.length := by rw [hvl]; simp only [Ty.size] at hoff; omega
    have hkk : ∀ cs : Array Value, Kept (fun b => blk (ob id) = some b) w (w.setRow g cs) := fun cs => by rw [q1]; exact setRow_kept w g _
    have hss : ∀ cs : Array Value, Same Z w (w.setRow g cs) := fun cs => (hkk cs).same fun b hZ hb => (h.own _ _ hl rfl b hb).1 hZ
    split at hr
    ·simp only [poff] at h6
     split at hr
     ·rename_i t' y0
      split at hr
      ·rename_i y1 hc1 hsm
       obtain ⟨hte1, hy1⟩ := tcast_some hc1
       subst hte1
       simp only at hy1; subst hy1
       have htt := Ty.same_eq hsm
       split at hr
       ·rename_i d hd
        obtain ⟨us, r1, r2⟩ := hvv
        obtain ⟨us1, a1, a2, a3⟩ := fld_DR r1 hd
        have hd1 := fld_some hd
        rw [q6] at hd1
        obtain ⟨d1, d2⟩ := d
        simp only [Option.some.injEq] at hd1
        subst hd1
        obtain ⟨u1, rfl⟩ := a1.single rfl
        have hu1 := a2 0 u1 rfl
        rw [Nat.add_zero] at hu1
        have hus := r1.len
        have e0 : repl (vs.set (fldOff t' f) u).toArray.toList us 0 = us := by rw [List.toList_toArray]; exact repl_all (by rw [List.length_set, hus, hvl])
        have hst := run_storeAt (P := P) (e := i) (off := 0) (htt ▸ he.eok) r1 q4 (by rw [List.size_toArray, List.length_set, hus, hvl]; omega)
        rw [e0] at hst
        refine ⟨_, Z, w.setRow g us.toArray, hr, by rw [h6, r2]; exact hst, ?_⟩
        refine h.setObj hl rfl (hkk _) ⟨g, us, u1, q1, r1.mono (hss _) (fun _ h => h), ⟨[u1], a1.mono (hss _) (fun _ h => h), (pk_one rfl).symm⟩, ?_, r1.one u1 (List.mem_of_getElem? hu1), kt, q6⟩ trivial rfl
        rw [set_same hu1]
        exact Go.setRow_heap w g _ _ e (0, 0) q4
       ·exact run_fail hr
      ·exact run_fail hr
     ·rename_i t' y0 f'
      split at hr
      ·rename_i y1 hc1 hsm
       obtain ⟨hte1, hy1⟩ := tcast_some hc1
       subst hte1
       simp only at hy1; subst hy1
       simp only [Bool.and_eq_true] at hsm
       have htt := Ty.same_eq hsm.1
       have hff := Nat.eq_of_beq_eq_true hsm.2
       subst hff
       obtain ⟨us, r1, r2, r3⟩ := hvv
       have hus := r1.len
       have e0 : repl (vs.set (fldOff t' f') u).toArray.toList us 0 = us := by rw [List.toList_toArray]; exact repl_all (by rw [List.length_set, hus, hvl])
       have hst := run_storeAt (P := P) (e := i) (off := 0) (htt ▸ he.eok) r1 q4 (by rw [List.size_toArray, List.length_set, hus, hvl]; omega)
       rw [e0] at hst
       refine ⟨_, Z, w.setRow g us.toArray, hr, by rw [h6, r2]; exact hst, ?_⟩
       refine h.setObj hl rfl (hkk _) ⟨g, us, .slice none 0 0, q1, r1.mono (hss _) (fun _ h => h), rfl, ?_, rfl, kt, q6⟩ trivial rfl
       rw [set_same r3]
       exact Go.setRow_heap w g _ _ e (0, 0) q4
      ·exact run_fail hr
     ·exact run_fail hr
    ·rename_i f' q
     obtain ⟨fu, hfu, hpq⟩ := hp
     split at hr
     ·rename_i hb
      have hb := Nat.eq_of_beq_eq_true hb
      subst hb
      split at hr
      ·replace hr := run_cond hr
       obtain ⟨hc1, hr⟩ := hr
       obtain ⟨hr, h3, h4⟩ := slR_ok h hvv hr
       have hst := run_storeCells_at P g (fldOff T' f') e [y] 0 (vs.set (fldOff T' f') u).toArray w q4 (by simp only [List.size_toArray, List.length_set, List.length_cons, List.length_nil]; omega) (by simpa using h3)
       simp only [Nat.add_zero, List.toList_toArray] at hst
       have hs1 : ti.ty.size = 1 := Nat.eq_of_beq_eq_true hc1
       have e0 : repl (vs.set (fldOff T' f') u) [y] (fldOff T' f') = vs.set (fldOff T' f') y := by rw [repl_single (by rw [List.length_set]; exact hoff'), List.set_set]
       refine ⟨_, Z, w.setRow g (vs.set (fldOff T' f') y).toArray, hr, ?_, ?_⟩
       ·rw [h6]
        simp only [poff, hfu, Nat.add_zero, Instr.storeAt, Instr.sureAddr, storeVar, Sem.run_bind, Sem.run_pure, Result.andThen_ok, run_sizeOf he.eok, h4, hs1, ne_eq]
        rw [if_neg (by simp), ← e0]
        exact hst
       ·refine h.setObj hl rfl (hkk _) ⟨g, vs, y, q1, q2.mono (hss _) (fun _ h => h), hvv.mono (hss _) (fun _ h => h) (fun _ _ => rfl) hvi, ?_, h3, kt, q6⟩ hvi rfl
        exact Go.setRow_heap w g _ _ e (0, 0) q4
      ·exact run_fail hr
     ·rename_i hb
      have hne : f ≠ f' := fun e => by subst e; rw [nbeq_self] at hb; cases hb
      split at hr
      ·rename_i t' y0
       split at hr
       ·rename_i y1 hc1
        obtain ⟨hte1, hy1⟩ := tcast_some hc1
        subst hte1
        simp only at hy1; subst hy1
        split at hr
        ·rename_i z' hset
         obtain ⟨us, r1, r2⟩ := hvv
         have hset0 := hset
         obtain ⟨s1, s2⟩ := setP_DR (p := .fld f' :: q) ⟨fu, hfu, hpq⟩ q2 hset r1
         simp only [setP] at hset0
         cases hf : T'.fld x0 f' with
         | none => rw [hf] at hset0; cases hset0
         | some w0 =>
          rw [hf] at hset0
          simp only at hset0
          have hfy := fld_some hf
          rw [hfu] at hfy; cases hfy
          cases hs0 : setP q w0.1 w0.2 ⟨ti.ty, y0⟩ with
          | none => rw [hs0] at hset0; cases hset0
          | some w1 =>
           obtain ⟨us0, a1, a2, a3⟩ := fld_DR q2 hf
           obtain ⟨b1, b2⟩ := setP_DR hpq a1 hs0 r1
           have hl0 := a1.len
           have hpo : poff (.fld f' :: q) T' = fldOff T' f' + poff q w0.1 := by simp only [poff, hfu]
           have hn : fldOff T' f < poff (.fld f' :: q) T' ∨ poff (.fld f' :: q) T' + us.length ≤ fldOff T' f := by
            rw [hpo]
            rcases fld_apart q6 hfu hne with ha | ha
            ·simp only [Ty.size] at ha; left; omega
            ·right; omega
           have hst := run_storeAt (P := P) (e := i) (off := poff (.fld f' :: q) T') he.eok r1 q4 (by rw [List.size_toArray, List.length_set]; exact s2)
           rw [List.toList_toArray, repl_set hn s2] at hst
           refine ⟨_, Z, _, hr, by rw [h6, r2]; exact hst, ?_⟩
           refine h.setObj hl rfl (hkk _) ⟨g, _, u, q1, s1.mono (hss _) (fun _ h => h), q3.mono (hss _) (fun _ h => h) (fun _ _ => rfl) hid0, ?_, q5, kt, q6⟩ hid0 rfl
           exact Go.setRow_heap w g _ _ e (0, 0) q4
        ·exact run_fail hr
       ·exact run_fail hr
      ·exact run_fail hr
    ·exact run_fail hr
   ·exact run_fail hr
  ·rename_i hnv hnv2
   replace hr := run_chk hr
   obtain ⟨hnr, hr⟩ := hr
   replace hr := dataR_ok h (Colder.refl s) hvv hvi hr
   obtain ⟨z, ws1, Z', hr, ⟨us, h3, h4⟩, h5, h6, h7, h8⟩ := hr
   have hav' : SR w Z' ob (.ref id T p) x := by obtain ⟨g, q1, q2, q3⟩ := hav; exact ⟨g, q1, q2, q3⟩
   have hl1 := (h8 id hnr).trans hl
   unfold contR at hr
   replace hr := run_obj hr
   obtain ⟨o2, hl2, hr⟩ := hr
   rw [hl] at hl2; cases hl2
   split at hr
   ·rename_i e T' c
    split at hr
    ·rename_i hsame
     split at hr
     ·rename_i y' hcast
      obtain ⟨hte, hy⟩ := tcast_some hcast
      subst hte
      simp only at hy; subst hy
      dsimp only at hr
      split at hr
      ·rename_i z' hset
       obtain ⟨g, vs, q1, q2, q3, _⟩ := (h5.objs _ _ hl1).2.1
       obtain ⟨g', q4, q5, q6⟩ := hav'
       rw [q1] at q4 q6; cases q4
       obtain ⟨q7, q8⟩ := setP_DR (ref_pval q6) q2 hset h3
       have hk : Kept (fun b => blk (ob id) = some b) w (w.setRow g (repl vs us (poff p T')).toArray) := by rw [q1]; exact setRow_kept w g _
       refine ⟨_, Z', w.setRow g (repl vs us (poff p T')).toArray, hr, ?_, ?_⟩
       ·rw [q5, h4]
        exact run_storeAt he.eok h3 q3 (by simpa using q8)
       ·rw [app_snoc]
        refine h5.setObj hl1 rfl hk ⟨g, _, q1, q7.mono (hk.same fun b hZ hb => (h5.own _ _ hl1 rfl b hb).1 hZ) (fun _ h => h), ?_, fun h => by cases h⟩ trivial rfl
        exact Go.setRow_heap w g _ _ e (0, 0) q3
      ·exact run_fail hr
     ·exact run_fail hr
    ·exact run_fail hr
   ·rename_i e T' c
    split at hr
    ·rename_i u _ _
     split at hr
     ·rename_i y' hcast
      obtain ⟨hte, hy⟩ := tcast_some hcast
      cases hte
      simp only at hy; subst hy
      dsimp only at hr
      split at hr
      ·rename_i z' hset
       obtain ⟨uss, q1, q2, _⟩ := (h5.objs _ _ hl1).2.1
       obtain ⟨g', q4, q5, q6⟩ := hav'
       cases p with
       | nil => exact q6.elim
       | cons st q =>
        cases st with
        | fld _ => exact q6.elim
        | idx m =>
         obtain ⟨q7, q8⟩ := q6
         rw [row_slen q2] at q7
         obtain ⟨g, cap, cur, q9, q10, q11, q12, q13, q14⟩ := row_own q2 (by omega)
         rw [q9] at q4; cases q4
         simp only [setP] at hset
         obtain ⟨us0, r1, r2, r3, r4⟩ := elem_DR q1 q7 T'.zero
         cases hs0 : setP q T' (List.getD c m T'.zero) ⟨ti.ty, z⟩ with
         | none => rw [hs0] at hset; simp at hset
         | some z0 =>
          rw [hs0] at hset; simp at hset; subst hset
          obtain ⟨r5, r6⟩ := setP_DR q8 r1 hs0 h3
          have hlen0 : (repl us0 us (poff q T')).length = T'.size := by rw [repl_len r6, r1.len]
          have hm : m < uss.length := (List.getElem?_eq_some_iff.1 r4).1
          have hfl := set_flatten q1.lenD hm hlen0
          have hfl2 : (uss.set m (repl us0 us (poff q T'))).flatten = repl uss.flatten us (m * T'.size + poff q T') := by rw [hfl, repl_repl r3 r6 r2]
          have hcl : cur.toList.length = cap * T'.size := by rw [← q13]; exact Array.length_toList
          have hsz : c.length * T'.size ≤ cur.toList.length := by rw [hcl]; exact Nat.mul_le_mul_right _ q11
          have hoff : m * T'.size + poff q T' + us.length ≤ c.length * T'.size := by rw [← q1.flatD]; omega
          have hk : Kept (fun b => blk (ob id) = some b) w (w.setRow g (repl cur.toList us (m * T'.size + poff q T')).toArray) := by rw [q9]; exact setRow_kept w g _
          have hs := hk.same (Z := Z') fun b hZ hb => (h5.own _ _ hl1 rfl b hb).1 hZ
          refine ⟨_, Z', w.setRow g (repl cur.toList us (m * T'.size + poff q T')).toArray, hr, ?_, ?_⟩
          ·rw [q5, h4]
           simp only [poff]
           exact run_storeAt he.eok h3 q10 (by have : cur.toList.length = cur.size := Array.length_toList; omega)
          ·rw [app_snoc]
           refine h5.setObj hl1 rfl hk ⟨uss.set m (repl us0 us (poff q T')), ?_, ⟨?_, .inr ⟨g, cap, _, ?_, Nat.zero_le _, Go.setRow_heap w g _ _ e (0, 0) q10, ?_, q12, ?_, ?_⟩⟩, fun h => by cases h⟩ trivial rfl
           ·exact (q1.mono fun _ _ hd => hd.mono hs fun _ h => h).set (r5.mono hs fun _ h => h) m
           ·rw [hfl2, repl_len (by rw [q1.flatD]; omega), q1.flatD, List.length_set]
           ·rw [q9, List.length_set]
           ·rw [List.length_set]; exact q11
           ·rw [List.size_toArray, repl_len (by omega), hcl]
           ·rw [List.toList_toArray, List.length_set, repl_take hoff hsz, q14, hfl2]
      ·exact run_fail hr
     ·exact run_fail hr
    ·exact run_fail hr
   ·exact run_fail hr
 ·exact run_fail hr
theorem holdR_ok {i : TypeId} {ti : TI} {av vv : SV} {x y : Value} {k : List Wr → RT} (h : RepAt E N U ob Z s a w) (he : TOk P i ti) (hav : SR w Z ob av x) (hvv : SR w Z ob vv y) (hvi : vv.ids U) (hr : (holdR ti.ty av vv k).run s = some ws) :
  ∃ ws1 w', (k ws1).run s = some ws ∧ (Instr.storeAt i x y).run P w = .ok () w' ∧ RepAt E N U ob Z (s.app ws1) a w' := by
 unfold holdR at hr
 split at hr
 ·rename_i id T m f r
  replace hr := run_obj hr
  obtain ⟨o', hl, hr⟩ := hr
  split at hr
  ·rename_i e T' c
   split at hr
   ·rename_i kt hkt
    replace hr := run_cond hr
    obtain ⟨hc, hr⟩ := hr
    simp only [Bool.and_eq_true] at hc
    obtain ⟨⟨_, hs1⟩, hst⟩ := hc
    have hs1 : ti.ty.size = 1 := Nat.eq_of_beq_eq_true hs1
    have hst := Ty.same_eq hst
    subst hst
    obtain ⟨hr, h3, h4⟩ := slR_ok h hvv hr
    have hyv : y = ob r := hvv
    obtain ⟨uss, q1, q2, _⟩ := (h.objs _ _ hl).2.1
    obtain ⟨g', q4, q5, q7, fu, q8, q6⟩ := hav
    rw [row_slen q2] at q7
    obtain ⟨g, cap, cur, q9, q10, q11, q12, q13, q14⟩ := row_own q2 (by omega)
    rw [q9] at q4; cases q4
    have hoff := fldTy_off hkt
    simp only [Ty.size] at hoff
    have hcl : cur.toList.length = cap * T'.size := by rw [← q13]; exact Array.length_toList
    have hsz : c.length * T'.size ≤ cur.toList.length := by rw [hcl]; exact Nat.mul_le_mul_right _ q11
    have hlt : m * T'.size + fldOff T' f < c.length * T'.size := by
     have : (m + 1) * T'.size ≤ c.length * T'.size := Nat.mul_le_mul_right _ q7
     rw [Nat.add_mul] at this
     omega
    have hsl : cur.toList.length = cur.size := Array.length_toList
    have hst := run_storeCells_at P g (m * T'.size + fldOff T' f) e [y] 0 cur w q10 (by simp only [List.length_cons, List.length_nil]; omega) (by simpa using h3)
    simp only [Nat.add_zero] at hst
    have e0 : repl cur.toList [y] (m * T'.size + fldOff T' f) = cur.toList.set (m * T'.size + fldOff T' f) y := repl_single (by omega)
    have hk : Kept (fun b => blk (ob id) = some b) w (w.setRow g (cur.toList.set (m * T'.size + fldOff T' f) y).toArray) := by rw [q9]; exact setRow_kept w g _
    have hs := hk.same (Z := Z) fun b hZ hb => (h.own _ _ hl rfl b hb).1 hZ
    refine ⟨_, w.setRow g (cur.toList.set (m * T'.size + fldOff T' f) y).toArray, hr, ?_, ?_⟩
    ·rw [q5]
     simp only [poff, hkt, Nat.add_zero, Instr.storeAt, Instr.sureAddr, storeVar, Sem.run_bind, Sem.run_pure, Result.andThen_ok, run_sizeOf he.eok, h4, hs1, ne_eq]
     rw [if_neg (by simp), ← e0]
     exact hst
    ·refine h.setObj hl rfl hk ⟨uss, q1.mono fun _ _ hd => hd.mono hs fun _ h => h, q7, ⟨?_, .inr ⟨g, cap, _, q9, Nat.zero_le _, Go.setRow_heap w g _ _ e (0, 0) q10, q11, q12, ?_, ?_⟩⟩, by rw [← hyv]; exact h3, kt, hkt⟩ hvi rfl
     ·rw [List.length_set, q1.flatD]
     ·rw [List.size_toArray, List.length_set, hcl]
     ·rw [List.toList_toArray, List.take_set, q14, hyv]
   ·exact run_fail hr
  ·exact run_fail hr
 ·exact run_fail hr
theorem takeR_ok {id : Nat} {k : List Wr → RT} (h : RepAt E N U ob Z s a w) (hr : (takeR id k).run s = some ws) :
  ∃ ws1 Z', (k ws1).run s = some ws ∧ RepAt E N U ob Z' (s.app ws1) a w := by
 unfold takeR at hr
 replace hr := run_obj hr
 obtain ⟨o', hl, hr⟩ := hr
 split at hr
 ·rename_i e T c m f r
  split at hr
  ·rename_i u hu
   replace hr := run_chk hr
   obtain ⟨hne, hr⟩ := hr
   have hid0 : U r := (h.objs _ _ hl).2.2
   replace hr := dataR_ok h (Colder.refl s) (v := .row r) (vv := ob r) rfl hid0 hr
   obtain ⟨y, ws1, Z', hr, ⟨vs, d1, d2⟩, h5, d4, _, h8⟩ := hr
   split at hr
   ·rename_i z hset
    have hnid : notRow id (.row r) = true := hne
    have hl1 := (h8 id hnid).trans hl
    obtain ⟨uss, q1, q2, q3, q4, kt, q5⟩ := (h5.objs _ _ hl1).2.1
    rw [hu] at q5; cases q5
    obtain ⟨u1, rfl⟩ := d1.single rfl
    rw [pk_one rfl] at d2
    obtain ⟨us0, r1, r2, r3, r4⟩ := elem_DR q1 q2 T.zero
    have hoff := fldTy_off hu
    simp only [Ty.size] at hoff
    have hl0 := r1.len
    obtain ⟨s1, _, _⟩ := setFld_DR r1 hset d1
    rw [repl_single (by omega)] at s1
    have hm : m < uss.length := (List.getElem?_eq_some_iff.1 r4).1
    have hfl := set_flatten q1.lenD hm (us := us0.set (fldOff T f) u1) (by rw [List.length_set]; exact hl0)
    have hfl2 : (uss.set m (us0.set (fldOff T f) u1)).flatten = uss.flatten.set (m * T.size + fldOff T f) (ob r) := by
     rw [hfl, d2, ← repl_single (show fldOff T f < us0.length by omega), repl_repl r3 (by simp only [List.length_cons, List.length_nil]; omega) r2, repl_single]
     have := q1.flatD
     omega
    refine ⟨_, Z', hr, ?_⟩
    rw [app_snoc]
    refine h5.setObj hl1 rfl (Kept.refl _ _) ⟨uss.set m (us0.set (fldOff T f) u1), q1.set s1 m, ?_, fun h => by cases h⟩ trivial rfl
    rw [hfl2, List.length_set]
    exact q3
   ·exact run_fail hr
  ·exact run_fail hr
 ·exact ⟨[], Z, hr, h⟩
theorem op_take (h : RepAt E Γ.N U ob Z s a w) (hg : E.globs = Γ.globs) {x : Operand} (ho : o.op = .assign x) (hr : (evalOp Γ fresh o).run s = some ws) :
  o.wp P a w (After E Γ.N U fresh s ws) Q := by
 simp only [evalOp, ho] at hr
 split at hr
 ·replace hr := opdR_ok h hg hr
  obtain ⟨g, h1, h2, hr⟩ := hr
  split at hr
  ·rename_i id
   replace hr := takeR_ok h hr
   obtain ⟨ws1, Z', hr, h3⟩ := hr
   have h1' : a.eval x = ob id := h1
   exact fin_val (v := ob id) (by simp [execOp, ho, h1']) h3 (vr (v := .row id) rfl) h2 (fun _ h => .inl h) hr
  ·exact fin_pure h (by simp [execOp, ho]) h1 h2 hr
 ·exact op_move h hg (.inr ho) hr
theorem op_store (hT : TysOk P Γ) (h : RepAt E Γ.N U ob Z s a w) (hg : E.globs = Γ.globs) {t : TypeId} {x y : Operand} (ho : o.op = .store t x y) (hr : (evalOp Γ fresh o).run s = some ws) :
  o.wp P a w (After E Γ.N U fresh s ws) Q := by
 simp only [evalOp, ho] at hr
 split at hr
 ·replace hr := tyR_ok hr
  obtain ⟨ti, hl, hr⟩ := hr
  replace hr := svR_ok h hg hr
  obtain ⟨av, h1, h2, hr⟩ := hr
  replace hr := svR_ok h hg hr
  obtain ⟨v, h3, h4, hr⟩ := hr
  replace hr := holdR_ok (P := P) h (hT _ _ hl) h1 h3 h4 hr
  obtain ⟨ws1, w', hr, h5, h6⟩ := hr
  refine fin_skip ?_ h6 (fun _ h => .inl h) hr
  simp only [execOp, ho]
  rw [Sem.run_bind, h5]
  rfl
 replace hr := tyR_ok hr
 obtain ⟨ti, hl, hr⟩ := hr
 replace hr := svR_ok h hg hr
 obtain ⟨av, h1, h2, hr⟩ := hr
 replace hr := svR_ok h hg hr
 obtain ⟨v, h3, h4, hr⟩ := hr
 replace hr := storeR_ok (P := P) h (hT _ _ hl) h1 h3 h4 hr
 obtain ⟨ws1, Z', w', hr, h5, h6⟩ := hr
 refine fin_skip ?_ h6 (fun _ h => .inl h) hr
 simp only [execOp, ho]
 rw [Sem.run_bind, h5]
 rfl
end
end Go.Proofs.YtehbbcdhahnkgaaGreat
