/- The ghost machine and the machine: cuts, literals, made rows, conversions. -/
import Derived.Test.YtehbbcdhahnkgaaGreatGmOpG
set_option linter.unusedVariables false
set_option linter.unusedSimpArgs false
namespace Go.Proofs.YtehbbcdhahnkgaaGreat
open Go
section
variable {P : Program} {Γ : Ctx} {E : Env} {N : Nat} {U : Nat → Prop} {ob : Nat → Value} {Z : Nat → Prop} {s : GS} {a : Act} {w : World} {ws : List Wr} {o : Oper} {fresh : Nat} {Q : Exit → Act → World → Prop}

theorem cut_len {α : Type} (xs : List α) {l h : Nat} (h1 : l ≤ h) (h2 : h ≤ xs.length) : (cut xs l h).length = h - l := by unfold cut; simp; omega
theorem cut_DR {t : Ty} {xs : List t.den} {A : Option Addr} {n c l h m : Nat} (hd : DR w Z (.sl t) xs [.slice A n c]) (h1 : l ≤ h) (h2 : h ≤ n) (h3 : h ≤ m) (h4 : m ≤ c) :
  DR w Z (.sl t) (cut xs l h) [.slice (if m = l then A else A.map (·.add (l * t.size))) (h - l) (m - l)] := by
 obtain ⟨A', c', e, q1, q2, q3⟩ := hd
 cases e
 have hl := cut_len xs h1 h2
 refine ⟨_, m - l, by rw [hl], by rw [hl]; omega, by omega, fun hp => ?_⟩
 rw [hl] at hp
 obtain ⟨b, off, uss, rfl, hZ, hlt, ha, hc⟩ := q3 (by omega)
 rw [if_neg (by omega)]
 refine ⟨b, off + l * t.size, (uss.take h).drop l, by rw [Option.map_some, Addr.add_mid], hZ, hlt, (ha.take h).drop l, fun j u hu => ?_⟩
 have hl1 : ∀ v ∈ uss.take h, v.length = t.size := fun v hv => ha.lenD v (List.mem_of_mem_take hv)
 rw [flatten_drop hl1, flatten_take ha.lenD, List.getElem?_drop, List.getElem?_take] at hu
 split at hu
 ·rw [Nat.add_assoc]; exact hc _ u hu
 ·cases hu

theorem op_slice (hT : TysOk P Γ) (h : RepAt E Γ.N U ob Z s a w) (hg : E.globs = Γ.globs) {t : TypeId} {x : Operand} {lo hi mx : Option Operand} (ho : o.op = .slice t x lo hi mx) (hr : (evalOp Γ fresh o).run s = some ws) :
  o.wp P a w (After E Γ.N U fresh s ws) Q := by
 simp only [evalOp, ho] at hr
 replace hr := tyR_ok hr
 obtain ⟨ti, hl, hr⟩ := hr
 have hsh := (hT _ _ hl).shape
 replace hr := svR_ok h hg hr
 obtain ⟨v, h1, h2, hr⟩ := hr
 replace hr := optI_ok h hg hr
 obtain ⟨lo', κ1, hr, e1⟩ := hr
 replace hr := optI_ok h hg hr
 obtain ⟨hi', κ2, hr, e2⟩ := hr
 replace hr := optI_ok h hg hr
 obtain ⟨mx', κ3, hr, e3⟩ := hr
 split at hr
 ·rename_i u hu
  rw [hu] at hsh
  split at hr
  ·split at hr
   ·rename_i i
    replace hr := run_obj hr
    obtain ⟨o', hlo, hr⟩ := hr
    split at hr
    ·rename_i e t' xs own
     split at hr
     ·rename_i ys hys
      obtain ⟨hte, hy⟩ := tcast_some hys
      cases hte
      simp only at hy; subst hy
      have hd0 := row_DR (h.objs _ _ hlo).2.1 (Z' := fun b => Z b ∨ blk (ob i) = some b) (fun _ h => .inl h) (fun b hb => .inr hb)
      have hev : a.eval x = ob i := h1
      obtain ⟨A, c, q, q1, q2, _⟩ := id hd0
      have hoi : ob i = .slice A (List.length xs) c := List.cons.inj q |>.1
      replace hr := cutR_ok (P := P) (w := w) (κ1 := κ1) (κ2 := κ2) (κ3 := κ3) q1 true hr
      obtain ⟨l, h', m, hr, r1, r2, r3, r4, _, hrun⟩ := hr
      refine fin_pure (v := .slice (if m = l then A else A.map (·.add (l * u.size))) (h' - l) (m - l)) h ?_ (vr (v := .rsl i u l h') ?_) h2 hr
      ·simp only [execOp, ho, Instr.sliceAt, Sem.run_bind, run_underlying hsh.1, Result.andThen_ok, hev, hoi, Instr.slice, e1, e2, e3, hrun, run_sizeOf hsh.2, Sem.run_pure]
      ·intro w1 Z1 ys hd
       rw [hoi] at hd
       exact cut_DR hd r1 r2 r3 r4
     ·exact run_fail hr
    ·exact run_fail hr
   ·exact run_fail hr
  replace hr := dataR_ok h (Colder.refl s) h1 h2 hr
  obtain ⟨xs, ws1, Z', hr, ⟨vs, h3, h4⟩, h5, h6, h7, _⟩ := hr
  obtain ⟨y, rfl⟩ := h3.single rfl
  rw [pk_one rfl] at h4
  have h3' := h3
  obtain ⟨A, c, q, q1, q2, _⟩ := h3'
  cases q
  replace hr := cutR_ok (P := P) (w := w) (κ1 := κ1) (κ2 := κ2) (κ3 := κ3) q1 true hr
  obtain ⟨l, h', m, hr, r1, r2, r3, r4, _, hrun⟩ := hr
  refine fin_val (v := .slice (if m = l then A else A.map (·.add (l * u.size))) (h' - l) (m - l)) ?_ h5 (vr (v := .data (.sl u) _) ⟨_, cut_DR h3 r1 r2 r3 r4, by rw [pk_one rfl]⟩) trivial (fun _ h => .inl h) hr
  simp only [execOp, ho, Instr.sliceAt, Sem.run_bind, run_underlying hsh.1, Result.andThen_ok, h4, Instr.slice, e1, e2, e3, hrun, run_sizeOf hsh.2, Sem.run_pure]
 ·rename_i hu
  rw [hu] at hsh
  split at hr
  ·rename_i xs
   replace hr := cutR_ok (P := P) (w := w) (κ1 := κ1) (κ2 := κ2) (κ3 := κ3) (Nat.le_refl _) false hr
   obtain ⟨l, h', m, hr, r1, r2, r3, r4, _, hrun⟩ := hr
   obtain ⟨hv, hmax⟩ := h1.str
   have hsz : (⟨List.toArray xs⟩ : ByteArray).size = List.length xs := by show (List.toArray xs).size = _; simp
   have hcl := cut_len xs r1 r2
   have hex : (⟨List.toArray xs⟩ : ByteArray).extract l h' = ⟨(cut xs l h').toArray⟩ := by
    apply ByteArray.ext
    rw [ByteArray.data_extract]
    apply Array.toList_inj.1
    unfold cut
    simp only [Array.toList_extract, List.extract_eq_take_drop, List.take_drop]
    congr 2
    omega
   refine fin_pure h (v := .string ⟨(cut xs l h').toArray⟩) ?_ (vr (v := .data .str _) (sr_str (by rw [hcl]; omega))) trivial hr
   have z3 : mx.map a.eval = none := e3
   rw [← hsz] at hrun
   simp only [execOp, ho, Instr.sliceAt, Sem.run_bind, run_underlying hsh, Result.andThen_ok, hv, Instr.slice, e1, e2, z3, Option.isSome_none, Bool.false_eq_true, if_false]
   have hrun' : (Instr.sliceBounds false (⟨List.toArray xs⟩ : ByteArray).size (⟨List.toArray xs⟩ : ByteArray).size (lo'.map (fun i => .int κ1 i)) (hi'.map (fun i => .int κ2 i)) none).run P w = .ok (l, h', m) w := hrun
   simp only [hrun', Result.andThen_ok, Sem.run_pure, hex, Sem.run_bind]
  ·exact run_fail hr
 ·rename_i n u hu
  rw [hu] at hsh
  split at hr
  ·rename_i i T
   obtain ⟨g, q1, q2, q3⟩ := h1
   simp only [poff] at q2
   refine fin_pure h (v := .slice (some ⟨g, 0, none⟩) n n) ?_ (vr (v := .asl i n) ⟨g, q1, rfl⟩) h2 hr
   have z1 : lo.map a.eval = none := e1
   have z2 : hi.map a.eval = none := e2
   have z3 : mx.map a.eval = none := e3
   simp only [execOp, ho, Instr.sliceAt, Sem.run_bind, run_underlying hsh.1, Result.andThen_ok, q2, Instr.sureAddr, z1, z2, z3, Instr.sliceBounds, run_sizeOf hsh.2, Sem.run_pure, Nat.zero_mul, Nat.sub_zero, Addr.add_mid, ite_self]
  ·exact run_fail hr
 ·exact run_fail hr

theorem op_makeSlice (hT : TysOk P Γ) (h : RepAt E Γ.N U ob Z s a w) (hg : E.globs = Γ.globs) (hf : ∀ j, fresh ≤ j → j < fresh + 4 → ¬ U j) {t : TypeId} {x y : Operand} (ho : o.op = .makeSlice t x y) (hr : (evalOp Γ fresh o).run s = some ws) :
  o.wp P a w (After E Γ.N U fresh s ws) Q := by
 simp only [evalOp, ho] at hr
 replace hr := tyR_ok hr
 obtain ⟨ti, hl, hr⟩ := hr
 have hsh := (hT _ _ hl).shape
 split at hr
 ·rename_i u hu
  rw [hu] at hsh
  replace hr := tyR_ok hr
  obtain ⟨te, hle, hr⟩ := hr
  have hte := hT _ _ hle
  replace hr := svR_ok h hg hr
  obtain ⟨v, h1, h2, hr⟩ := hr
  replace hr := svR_ok h hg hr
  obtain ⟨v', h3, h4, hr⟩ := hr
  split at hr
  ·rename_i n c
   replace hr := run_chk hr
   obtain ⟨hb, hr⟩ := hr
   simp only [Bool.and_eq_true, decide_eq_true_eq, room] at hb
   obtain ⟨⟨⟨b0, b1⟩, b2⟩, b3⟩ := hb
   have b1' : @LE.le Int Int.instLEInt 0 n := b1
   have b2' : @LE.le Int Int.instLEInt n c := b2
   have hue := Ty.same_eq b0
   obtain ⟨i, hi, hz, hs, hby⟩ := hte.parts
   obtain ⟨en, rn⟩ := h1.i64
   obtain ⟨ec, rc⟩ := h3.i64
   have hwide := hte.wide
   have hc48 : (i.bytes : Int) * c ≤ 281474976710656 := by
    have e : c = ((Int.toNat c : Nat) : Int) := (Int.toNat_of_nonneg (Int.le_trans b1 b2)).symm
    rw [e, hby, ← Int.natCast_mul, Nat.mul_comm]; omega
   have hmk := run_make (P := P) w t ti.el i _ hsh.1 hi hz .i64 .i64 n c b1 b2 hc48 rc.2
   have hcm : Int.toNat c ≤ maxLen := by have := rc.2; unfold maxLen; omega
   have hf0 := hf fresh (Nat.le_refl _) (by omega)
   have hzl : (pk te.ty (zc te.ty)).cells.toList = zc te.ty := pk_cells (DR.zero (w := w) (Z := Z) te.ty)
   have hzs : (pk te.ty (zc te.ty)).cells.size = te.ty.size := by rw [← Array.length_toList, hzl, (DR.zero (w := w) (Z := Z) te.ty).len]
   have hcells : (madeCells (pk te.ty (zc te.ty)).cells (Int.toNat c * i.size)).toList = (List.replicate (Int.toNat c) (zc te.ty)).flatten := by
    unfold madeCells; rw [hs, ← hzs, modCells, hzl]
   have hfl : ∀ m, (List.replicate m (zc te.ty)).flatten.length = m * te.ty.size := fun m => by
    have h := (All2.replicate (DR.zero (w := w) (Z := Z) te.ty) m).flatD
    simpa using h
   subst hue
   have hrow := h.newRow hf0 (e := ti.el) (t := te.ty) (xs := List.replicate (Int.toNat n) te.ty.zero) (uss := List.replicate (Int.toNat n) (zc te.ty)) (cs := madeCells (pk te.ty (zc te.ty)).cells (Int.toNat c * i.size)) (cap := Int.toNat c)
    (All2.replicate (DR.zero _) _) (by rw [← Array.length_toList, hcells, hfl]) (by rw [List.length_replicate]; omega) hcm (by
     rw [hcells, List.length_replicate]
     have e : Int.toNat c = Int.toNat n + (Int.toNat c - Int.toNat n) := by omega
     rw [e, ← List.replicate_append_replicate, List.flatten_append, ← hfl, List.take_left])
   refine fin_val (v := .slice (some ⟨w.heap.size, 0, none⟩) (Int.toNat n) (Int.toNat c)) ?_ hrow (vr (v := .row fresh) (by simp [SR])) (.inr rfl) fresh_in hr
   simp only [execOp, ho, Sem.run_bind, en, ec, hmk, Result.andThen_ok, Sem.run_pure]
  ·exact run_fail hr
 ·exact run_fail hr
end
end Go.Proofs.YtehbbcdhahnkgaaGreat
