/- The ghost machine and the machine: loads, addresses, stores, new variables. -/
import Derived.Test.YtehbbcdhahnkgaaGreatGmOpC
set_option linter.unusedVariables false
set_option linter.unusedSimpArgs false
namespace Go.Proofs.YtehbbcdhahnkgaaGreat
open Go
section
variable {P : Program} {Γ : Ctx} {E : Env} {N : Nat} {U : Nat → Prop} {ob : Nat → Value} {Z : Nat → Prop} {s : GS} {a : Act} {w : World} {ws : List Wr} {o : Oper} {fresh : Nat} {Q : Exit → Act → World → Prop}

theorem run_loadDR {e : TypeId} {t : Ty} {x : t.den} {us : List Value} {b off : Nat} (he : EOk P e t) (hd : DR w Z t x us) (hc : ∀ j u, us[j]? = some u → w.cell? ⟨b, off + j, none⟩ = some u) :
  (Instr.loadAt e (.pointer (some ⟨b, off, none⟩))).run P w = .ok (pk t us) w := by
 cases ha : t.isAgg with
 | true =>
  rw [pk_agg ha]
  obtain ⟨h1, _, d, hu, hdr⟩ := he
  exact run_loadAt_mid w b off e us d hc hu (hdr.trans ha) (by rw [h1, hd.len])
 | false =>
  obtain ⟨v, rfl⟩ := hd.single ha
  have := hc 0 v rfl
  rw [Nat.add_zero] at this
  simp only [Instr.loadAt, Instr.sureAddr, loadVar, Sem.run_bind, Sem.run_pure, Result.andThen_ok, run_isAgg he, ha, Bool.false_eq_true, if_false, Go.run_load, this, pk_one ha]

theorem box_part {i e : Nat} {t : Ty} {x : t.den} {own : Bool} {p : List PS} {v : Value} {d : Dt} (h : OR w Z ob i (.box e t x own)) (hv : SR w Z ob (.ref i t p) v) (hd : getP p t x = some d) :
  ∃ g us vs, v = .pointer (some ⟨g, poff p t, none⟩) ∧ blk (ob i) = some g ∧ DR w Z d.1 d.2 us ∧ (∀ j u, us[j]? = some u → w.cell? ⟨g, poff p t + j, none⟩ = some u) ∧ poff p t + us.length ≤ vs.length ∧ w.heap[g]? = some (.cells vs.toArray e (0, 0)) ∧ DR w Z t x vs ∧ pval p t := by
 obtain ⟨g, vs, h1, h2, h3, h4⟩ := h
 obtain ⟨g', h5, h6, h7⟩ := hv
 rw [h1] at h5 h7; cases h5
 have hp : pval p t := by
  cases t <;> (try exact h7)
  cases p with
  | nil => exact h7.elim
  | cons q p => cases q <;> simp [rval, slen] at h7
 obtain ⟨us, h8, h9, h10⟩ := getP_DR hp h2 hd
 refine ⟨g, us, vs, h6, by rw [h1]; rfl, h8, fun j u hu => ?_, h10, h3, h2, hp⟩
 rw [cell_of_row w g _ _ e (0, 0) h3]
 simpa using h9 j u hu
theorem row_own {i e : Nat} {t : Ty} {xs : List t.den} {uss : List (List Value)} (h : w.ownsRow 0 e t.size (ob i) xs.length uss.flatten) (hn : 0 < xs.length) :
  ∃ g cap cur, ob i = .slice (some ⟨g, 0, none⟩) xs.length cap ∧ w.heap[g]? = some (.cells cur e (0, 0)) ∧ xs.length ≤ cap ∧ cap ≤ maxLen ∧ cur.size = cap * t.size ∧ cur.toList.take (xs.length * t.size) = uss.flatten := by
 rcases h.2 with ⟨_, hz⟩ | ⟨g, cap, cur, hv, _, hh, hnc, hcm, hcs, ht⟩
 ·omega
 ·exact ⟨g, cap, cur, hv, hh, hnc, hcm, hcs, ht⟩
theorem row_ownL {i e n sz : Nat} {L : List Value} (h : w.ownsRow 0 e sz (ob i) n L) (hn : 0 < n) :
  ∃ g cap cur, ob i = .slice (some ⟨g, 0, none⟩) n cap ∧ w.heap[g]? = some (.cells cur e (0, 0)) ∧ n ≤ cap ∧ cap ≤ maxLen ∧ cur.size = cap * sz ∧ cur.toList.take (n * sz) = L := by
 rcases h.2 with ⟨_, hz⟩ | ⟨g, cap, cur, hv, _, hh, hnc, hcm, hcs, ht⟩
 ·omega
 ·exact ⟨g, cap, cur, hv, hh, hnc, hcm, hcs, ht⟩
theorem row_slen {i e n : Nat} {sz : Nat} {xs : List Value} (h : w.ownsRow 0 e sz (ob i) n xs) : slen (ob i) = n := by
 rcases h.2 with ⟨hv, hz⟩ | ⟨g, cap, cur, hv, _⟩ <;> rw [hv]
 ·exact hz.symm
 ·rfl
theorem row_part {i e : Nat} {t : Ty} {xs : List t.den} {own : Bool} {p : List PS} {v : Value} {d : Dt} (h : OR w Z ob i (.row e t xs own)) (hv : SR w Z ob (.ref i (.sl t) p) v) (hd : getP p (.sl t) xs = some d) :
  ∃ g us uss cap cur k q, v = .pointer (some ⟨g, poff p (.sl t), none⟩) ∧ blk (ob i) = some g ∧ DR w Z d.1 d.2 us ∧ (∀ j u, us[j]? = some u → w.cell? ⟨g, poff p (.sl t) + j, none⟩ = some u) ∧ poff p (.sl t) + us.length ≤ uss.flatten.length ∧
   ob i = .slice (some ⟨g, 0, none⟩) xs.length cap ∧ w.heap[g]? = some (.cells cur e (0, 0)) ∧ xs.length ≤ cap ∧ cap ≤ maxLen ∧ cur.size = cap * t.size ∧ cur.toList.take (xs.length * t.size) = uss.flatten ∧ All2 (DR w Z t) xs uss ∧ p = .idx k :: q ∧ k < xs.length ∧ pval q t := by
 obtain ⟨uss, h1, h2, _⟩ := h
 obtain ⟨g', h5, h6, h7⟩ := hv
 cases p with
 | nil => exact h7.elim
 | cons q p =>
  cases q with
  | fld k => exact h7.elim
  | idx k =>
   obtain ⟨hk, hp⟩ := h7
   rw [row_slen h2] at hk
   obtain ⟨g, cap, cur, h8, h9, h10, h11, h12, h13⟩ := row_own h2 (by omega)
   rw [h8] at h5; cases h5
   simp only [getP] at hd
   obtain ⟨us0, h14, h15, h16, _⟩ := elem_DR h1 hk t.zero
   obtain ⟨us, h17, h18, h19⟩ := getP_DR hp h14 hd
   refine ⟨g, us, uss, cap, cur, k, p, h6, by rw [h8]; rfl, h17, fun j u hu => ?_, ?_, h8, h9, h10, h11, h12, h13, h1, rfl, hk, hp⟩
   ·rw [cell_of_row w g _ _ e (0, 0) h9]
    have := h15 _ _ (h18 j u hu)
    simp only [poff]
    rw [← h13, List.getElem?_take] at this
    split at this
    ·rw [← Array.getElem?_toList, Nat.add_assoc]; exact this
    ·cases this
   ·simp only [poff]; omega

theorem poff_snoc_fld : ∀ {p : List PS} {T u : Ty} {f : Nat}, pval p T → pathTy p T = some u → poff (p ++ [.fld f]) T = poff p T + fldOff u f ∧ ∀ u', fldTy u f = some u' → pval (p ++ [.fld f]) T
 | [], T, u, f, _, h => by simp only [pathTy] at h; cases h; simp only [List.nil_append, poff]; exact ⟨by cases fldTy T f <;> simp [poff], fun u' hu => ⟨u', hu, trivial⟩⟩
 | .fld k :: p, T, u, f, hp, h => by
  obtain ⟨t', h1, h2⟩ := hp
  simp only [pathTy, h1] at h
  obtain ⟨h3, h4⟩ := poff_snoc_fld (p := p) (f := f) h2 h
  simp only [List.cons_append, poff, h1]
  exact ⟨by rw [h3]; omega, fun u' hu => ⟨t', h1, h4 u' hu⟩⟩
 | .idx i :: p, .arr n t, u, f, hp, h => by
  obtain ⟨h1, h2⟩ := hp
  simp only [pathTy] at h
  obtain ⟨h3, h4⟩ := poff_snoc_fld (p := p) (f := f) h2 h
  simp only [List.cons_append, poff]
  exact ⟨by rw [h3]; omega, fun u' hu => ⟨h1, h4 u' hu⟩⟩
 | .idx i :: p, .sl t, _, _, hp, _ => hp.elim
 | .idx i :: p, .pair _ _, _, _, hp, _ | .idx i :: p, .bool, _, _, hp, _ | .idx i :: p, .i64, _, _, hp, _ | .idx i :: p, .u8, _, _, hp, _ | .idx i :: p, .u16, _, _, hp, _ | .idx i :: p, .u32, _, _, hp, _ | .idx i :: p, .u64, _, _, hp, _ | .idx i :: p, .str, _, _, hp, _ | .idx i :: p, .unit, _, _, hp, _ => hp.elim
theorem poff_snoc_idx : ∀ {p : List PS} {T u : Ty} {n i : Nat}, pval p T → pathTy p T = some (.arr n u) → i < n → poff (p ++ [.idx i]) T = poff p T + i * u.size ∧ pval (p ++ [.idx i]) T
 | [], T, u, n, i, _, h, hi => by simp only [pathTy] at h; cases h; simp only [List.nil_append, poff]; exact ⟨by omega, hi, trivial⟩
 | .fld k :: p, T, u, n, i, hp, h, hi => by
  obtain ⟨t', h1, h2⟩ := hp
  simp only [pathTy, h1] at h
  obtain ⟨h3, h4⟩ := poff_snoc_idx (p := p) h2 h hi
  simp only [List.cons_append, poff, h1]
  exact ⟨by rw [h3]; omega, ⟨t', h1, h4⟩⟩
 | .idx j :: p, .arr m t, u, n, i, hp, h, hi => by
  obtain ⟨h1, h2⟩ := hp
  simp only [pathTy] at h
  obtain ⟨h3, h4⟩ := poff_snoc_idx (p := p) h2 h hi
  simp only [List.cons_append, poff]
  exact ⟨by rw [h3]; omega, ⟨h1, h4⟩⟩
 | .idx j :: p, .sl t, _, _, _, hp, _, _ => hp.elim
 | .idx j :: p, .pair _ _, _, _, _, hp, _, _ | .idx j :: p, .bool, _, _, _, hp, _, _ | .idx j :: p, .i64, _, _, _, hp, _, _ | .idx j :: p, .u8, _, _, _, hp, _, _ | .idx j :: p, .u16, _, _, _, hp, _, _ | .idx j :: p, .u32, _, _, _, hp, _, _ | .idx j :: p, .u64, _, _, _, hp, _, _ | .idx j :: p, .str, _, _, _, hp, _, _ | .idx j :: p, .unit, _, _, _, hp, _, _ => hp.elim
theorem root_fld {v : Value} {p : List PS} {T u u' : Ty} {f : Nat} (h : rval v T p) (hp : pathTy p T = some u) (hu : fldTy u f = some u') : poff (p ++ [.fld f]) T = poff p T + fldOff u f ∧ rval v T (p ++ [.fld f]) := by
 cases T with
 | sl t =>
  cases p with
  | nil => exact h.elim
  | cons q p =>
   cases q with
   | fld k => exact h.elim
   | idx k =>
    obtain ⟨h1, h2⟩ := h
    simp only [pathTy] at hp
    obtain ⟨h3, h4⟩ := poff_snoc_fld (f := f) h2 hp
    simp only [List.cons_append, poff]
    exact ⟨by rw [h3]; omega, h1, h4 u' hu⟩
 | _ => exact ⟨(poff_snoc_fld (f := f) h hp).1, (poff_snoc_fld (f := f) h hp).2 u' hu⟩
theorem root_idx {v : Value} {p : List PS} {T u : Ty} {n i : Nat} (h : rval v T p) (hp : pathTy p T = some (.arr n u)) (hi : i < n) : poff (p ++ [.idx i]) T = poff p T + i * u.size ∧ rval v T (p ++ [.idx i]) := by
 cases T with
 | sl t =>
  cases p with
  | nil => exact h.elim
  | cons q p =>
   cases q with
   | fld k => exact h.elim
   | idx k =>
    obtain ⟨h1, h2⟩ := h
    simp only [pathTy] at hp
    obtain ⟨h3, h4⟩ := poff_snoc_idx h2 hp hi
    simp only [List.cons_append, poff]
    exact ⟨by rw [h3]; omega, h1, h4⟩
 | _ => exact poff_snoc_idx h hp hi

theorem run_fieldAt {t : TypeId} {fs : Array Field} {k : Nat} {fl : Field} {u : Ty} {b off : Nat} (hu : P.underlying t = some (.struct fs)) (hf : fs.toList[k]? = some fl) (he : EOk P fl.type u) :
  (Instr.fieldAt t (.pointer (some ⟨b, off, none⟩)) k).run P w = .ok (.pointer (some ⟨b, off + fl.offset, none⟩)) w := by
 have hne : ¬ u.size = 0 := by have := he.2.1; omega
 simp only [Instr.fieldAt, Sem.run_bind, run_underlying hu, Result.andThen_ok]
 rw [show fs[k]? = some fl by rw [← Array.getElem?_toList]; exact hf]
 simp only [Instr.sureAddr, fieldPlace, Sem.run_bind, Sem.run_pure, Result.andThen_ok, run_sizeOf he, if_neg hne, Addr.add_mid]

theorem op_fieldAddr (hT : TysOk P Γ) (h : RepAt E Γ.N U ob Z s a w) (hg : E.globs = Γ.globs) {t : TypeId} {x : Operand} {f : Nat} (ho : o.op = .fieldAddr t x f) (hr : (evalOp Γ fresh o).run s = some ws) :
  o.wp P a w (After E Γ.N U fresh s ws) Q := by
 simp only [evalOp, ho] at hr
 replace hr := tyR_ok hr
 obtain ⟨ti, hl, hr⟩ := hr
 replace hr := svR_ok h hg hr
 obtain ⟨v, h1, h2, hr⟩ := hr
 have hti := (hT _ _ hl).shape
 split at hr
 ·rename_i i T p
  split at hr
  ·rename_i u hpt
   replace hr := run_cond hr
   obtain ⟨hs, hr⟩ := hr
   have hte := Ty.same_eq hs
   split at hr
   ·rename_i u' hft
    obtain ⟨A, B, rfl⟩ := fldTy_pair hft
    rw [← hte] at hti
    obtain ⟨fs, hu, hfs⟩ := hti
    obtain ⟨fl, h3, h4, h5⟩ := hfs.at_ hft
    obtain ⟨g, h6, h7, h8⟩ := h1
    obtain ⟨h9, h10⟩ := root_fld (f := f) h8 hpt hft
    refine fin_pure h (v := .pointer (some ⟨g, poff (p ++ [.fld f]) T, none⟩)) ?_ (vr (v := .ref i T (p ++ [.fld f])) ⟨g, h6, rfl, h10⟩) h2 hr
    simp only [execOp, ho]
    rw [h7, Sem.run_bind, run_fieldAt hu h3 h5, h9, h4, Nat.zero_add]
    rfl
   ·exact run_fail hr
  ·exact run_fail hr
 ·rename_i t' y
  replace hr := run_cond hr
  obtain ⟨hs, hr⟩ := hr
  have hte := Ty.same_eq hs
  split at hr
  ·rename_i z hz
   have hft := fld_some hz
   obtain ⟨A, B, rfl⟩ := fldTy_pair hft
   rw [← hte] at hti
   obtain ⟨fs, hu, hfs⟩ := hti
   obtain ⟨fl, h3, h4, h5⟩ := hfs.at_ hft
   obtain ⟨b, off, vs, h6, h7, h8, h9, h10⟩ := h1
   obtain ⟨us, h11, h12, h13⟩ := fld_DR h9 hz
   refine fin_pure h (v := .pointer (some ⟨b, off + fl.offset, none⟩)) ?_ (vr (v := .fp z.1 z.2) ⟨b, off + fl.offset, us, rfl, h7, h8, h11, fun j u hu => ?_⟩) trivial hr
   ·simp only [execOp, ho]
    rw [h6, Sem.run_bind, run_fieldAt hu h3 h5]
    rfl
   ·rw [h4, Nat.zero_add, Nat.add_assoc]; exact h10 _ _ (h12 j u hu)
  ·exact run_fail hr
 ·exact run_fail hr

theorem run_indexAt_sl {t e : TypeId} {u : Ty} {b off n c : Nat} {kd : IntKind} {i : Nat} (hu : P.underlying t = some (.slice e)) (he : EOk P e u) (hi : i < n) :
  (Instr.indexAt t (.slice (some ⟨b, off, none⟩) n c) (.int kd (i : Int))).run P w = .ok (.pointer (some ⟨b, off + i * u.size, none⟩)) w := by
 have c1 : (0 : Int) ≤ (i : Int) ∧ (i : Int) < (n : Int) := ⟨by omega, by omega⟩
 simp only [Instr.indexAt, asIntOf, Sem.run_bind, Sem.run_pure, Result.andThen_ok, run_underlying hu, if_pos c1, run_sizeOf he, Int.toNat_natCast, Addr.add_mid]
theorem run_indexAt_arr {t e : TypeId} {u : Ty} {b off n : Nat} {kd : IntKind} {i : Nat} (hu : P.underlying t = some (.array n e)) (he : EOk P e u) (hi : i < n) :
  (Instr.indexAt t (.pointer (some ⟨b, off, none⟩)) (.int kd (i : Int))).run P w = .ok (.pointer (some ⟨b, off + i * u.size, none⟩)) w := by
 have c1 : (0 : Int) ≤ (i : Int) ∧ (i : Int) < (n : Int) := ⟨by omega, by omega⟩
 simp only [Instr.indexAt, asIntOf, Instr.sureAddr, Sem.run_bind, Sem.run_pure, Result.andThen_ok, run_underlying hu, if_pos c1, run_sizeOf he, Int.toNat_natCast, Addr.add_mid]

theorem indexAddrR_ok {t : TypeId} {ti : TI} {x : SV} {xv : Value} {i : Int} {kd : IntKind} {k : SV → RT} (h : RepAt E N U ob Z s a w) (hti : TOk P t ti) (hx : SR w Z ob x xv) (hxi : x.ids U) (hr : (indexAddrR ti.ty x i k).run s = some ws) :
  ∃ r z, (k r).run s = some ws ∧ SR w Z ob r z ∧ r.ids U ∧ (Instr.indexAt t xv (.int kd i)).run P w = .ok z w := by
 have hsh := hti.shape
 unfold indexAddrR at hr
 split at hr
 ·rename_i u xs
  replace hr := run_cond hr
  obtain ⟨hs, hr⟩ := hr
  rw [← Ty.same_eq hs] at hsh
  replace hr := run_chk hr
  obtain ⟨hb, hr⟩ := hr
  obtain ⟨m, rfl, hmn, hmt⟩ := inR_nat hb
  obtain ⟨vs, ⟨A, c, rfl, h1, h2, h3⟩, hv⟩ := hx
  obtain ⟨b, off, uss, hA, hZ, hlt, ha, hcell⟩ := h3 (by omega)
  obtain ⟨us, h5, h6, h7, _⟩ := elem_DR ha hmn u.zero
  rw [pk_one (show (Ty.sl u).isAgg = false from rfl), hA] at hv
  subst hv
  exact ⟨_, _, hr, ⟨b, off + m * u.size, us, rfl, hZ, hlt, h5, fun j u' hu' => by rw [Nat.add_assoc]; exact hcell _ _ (h6 j u' hu')⟩, trivial, run_indexAt_sl hsh.1 hsh.2 hmn⟩
 ·rename_i n u xs
  replace hr := run_cond hr
  obtain ⟨hs, hr⟩ := hr
  rw [← Ty.same_eq hs] at hsh
  replace hr := run_chk hr
  obtain ⟨hb, hr⟩ := hr
  obtain ⟨m, rfl, hmn, hmt⟩ := inR_nat hb
  obtain ⟨b, off, vs, rfl, hZ, hlt, ⟨hl, uss, rfl, ha⟩, hcell⟩ := hx
  obtain ⟨us, h5, h6, h7, _⟩ := elem_DR ha (show m < List.length xs by omega) u.zero
  exact ⟨_, _, hr, ⟨b, off + m * u.size, us, rfl, hZ, hlt, h5, fun j u' hu' => by rw [Nat.add_assoc]; exact hcell _ _ (h6 j u' hu')⟩, trivial, run_indexAt_arr hsh.1 hsh.2 hmn⟩
 ·rename_i id
  replace hr := run_obj hr
  obtain ⟨o', hl, hr⟩ := hr
  obtain ⟨hU, hOR, hids⟩ := h.objs _ _ hl
  split at hr
  ·rename_i e u xs own
   replace hr := run_cond hr
   obtain ⟨hs, hr⟩ := hr
   rw [← Ty.same_eq hs] at hsh
   replace hr := run_chk hr
   obtain ⟨hb, hr⟩ := hr
   obtain ⟨m, rfl, hmn, hmt⟩ := inR_nat hb
   obtain ⟨uss, h1, h2, h3⟩ := hOR
   obtain ⟨g, cap, cur, h8, h9, h10, h11, h12, h13⟩ := row_own h2 (by omega)
   have hxv : xv = ob id := hx
   rw [h8] at hxv
   subst hxv
   have hrun := run_indexAt_sl (P := P) (w := w) (b := g) (off := 0) (c := cap) (kd := kd) hsh.1 hsh.2 hmn
   rw [Nat.zero_add] at hrun
   split at hr
   ·refine ⟨_, _, hr, ⟨g, by rw [h8]; rfl, ?_, ?_⟩, hxi, hrun⟩
    ·simp [poff]
    ·rw [h8]; exact ⟨by simpa [slen] using hmn, trivial⟩
   ·obtain ⟨us, h5, h6, h7, _⟩ := elem_DR h1 hmn u.zero
    refine ⟨_, _, hr, ⟨g, m * u.size, us, rfl, h3 rfl g (by rw [h8]; rfl), (Array.getElem?_eq_some_iff.1 h9).1, h5, fun j u' hu' => ?_⟩, trivial, hrun⟩
    rw [cell_of_row w g _ _ e (0, 0) h9, ← Array.getElem?_toList]
    have := h6 j u' hu'
    rw [← h13, List.getElem?_take] at this
    split at this
    ·exact this
    ·cases this
  ·rename_i e u xs i0 f0 r0
   replace hr := run_cond hr
   obtain ⟨hs, hr⟩ := hr
   rw [← Ty.same_eq hs] at hsh
   replace hr := run_chk hr
   obtain ⟨hb, hr⟩ := hr
   obtain ⟨m, rfl, hmn, hmt⟩ := inR_nat hb
   obtain ⟨uss, h1, h0, h2, h3⟩ := hOR
   obtain ⟨g, cap, cur, h8, h9, h10, h11, h12, h13⟩ := row_ownL h2 (by omega)
   have hxv : xv = ob id := hx
   rw [h8] at hxv
   subst hxv
   have hrun := run_indexAt_sl (P := P) (w := w) (b := g) (off := 0) (c := cap) (kd := kd) hsh.1 hsh.2 hmn
   rw [Nat.zero_add] at hrun
   refine ⟨_, _, hr, ⟨g, by rw [h8]; rfl, ?_, ?_⟩, hxi, hrun⟩
   ·simp [poff]
   ·rw [h8]; exact ⟨by simpa [slen] using hmn, trivial⟩
  ·exact run_fail hr
 ·rename_i id T p
  split at hr
  ·rename_i n u hpt
   replace hr := run_cond hr
   obtain ⟨hs, hr⟩ := hr
   rw [← Ty.same_eq hs] at hsh
   replace hr := run_chk hr
   obtain ⟨hb, hr⟩ := hr
   obtain ⟨m, rfl, hmn, hmt⟩ := inR_nat hb
   obtain ⟨g, h6, rfl, h8⟩ := hx
   obtain ⟨h9, h10⟩ := root_idx h8 hpt hmn
   exact ⟨_, _, hr, ⟨g, h6, rfl, h10⟩, hxi, by rw [hmt, h9]; exact run_indexAt_arr hsh.1 hsh.2 hmn⟩
  ·exact run_fail hr
 ·exact run_fail hr
theorem op_indexAddr (hT : TysOk P Γ) (h : RepAt E Γ.N U ob Z s a w) (hg : E.globs = Γ.globs) {t : TypeId} {x i : Operand} (ho : o.op = .indexAddr t x i) (hr : (evalOp Γ fresh o).run s = some ws) :
  o.wp P a w (After E Γ.N U fresh s ws) Q := by
 simp only [evalOp, ho] at hr
 replace hr := tyR_ok hr
 obtain ⟨ti, hl, hr⟩ := hr
 replace hr := svR_ok h hg hr
 obtain ⟨v, h1, h2, hr⟩ := hr
 replace hr := svR_ok h hg hr
 obtain ⟨iv, h3, h4, hr⟩ := hr
 split at hr
 ·replace hr := indexAddrR_ok (P := P) (kd := .i64) h (hT _ _ hl) h1 h2 hr
  obtain ⟨r, z, hr, h5, h6, h7⟩ := hr
  refine fin_pure h (v := z) ?_ (vr h5) h6 hr
  simp only [execOp, ho]
  rw [h3.i64.1, Sem.run_bind, h7]
  rfl
 ·replace hr := indexAddrR_ok (P := P) (kd := .u8) h (hT _ _ hl) h1 h2 hr
  obtain ⟨r, z, hr, h5, h6, h7⟩ := hr
  refine fin_pure h (v := z) ?_ (vr h5) h6 hr
  simp only [execOp, ho]
  rw [h3.u8, Sem.run_bind, h7]
  rfl
 ·exact run_fail hr
end
end Go.Proofs.YtehbbcdhahnkgaaGreat
