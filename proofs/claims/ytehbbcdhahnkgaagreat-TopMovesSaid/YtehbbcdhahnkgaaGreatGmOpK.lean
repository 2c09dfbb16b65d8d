/- The ghost machine and the machine: conversions. -/
import Derived.Test.YtehbbcdhahnkgaaGreatGmOpJ
import Derived.Lib.ConvBytes
set_option linter.unusedVariables false
set_option linter.unusedSimpArgs false
namespace Go.Proofs.YtehbbcdhahnkgaaGreat
open Go
section
variable {P : Program} {Γ : Ctx} {E : Env} {N : Nat} {U : Nat → Prop} {ob : Nat → Value} {Z : Nat → Prop} {s : GS} {a : Act} {w : World} {ws : List Wr} {o : Oper} {fresh : Nat} {Q : Exit → Act → World → Prop}

theorem bytes_cells {ys : List UInt8} {uss : List (List Value)} (h : All2 (DR w Z .u8) ys uss) : ∀ (j : Nat) (hj : j < ys.length), uss.flatten[j]? = some (.int .u8 (ys[j].toNat : Int)) := by
 intro j hj
 obtain ⟨us, h1, h2, _⟩ := elem_DR h hj 0
 have hus : us = [.int .u8 ((ys.getD j 0).toNat : Int)] := h1
 subst hus
 have := h2 0 _ rfl
 simp only [Ty.size, Nat.mul_one, Nat.add_zero] at this
 rw [this]
 simp [List.getD, List.getElem?_eq_getElem hj]

theorem run_bytes_string {src dst e : TypeId} (hs : P.underlying src = some (.slice e)) (he : P.underlying e = some (.int .u8)) (hd : P.underlying dst = some .string) {v : Value} {ys : List UInt8} (hv : LA w Z v .u8 ys) :
  (convert src dst v).run P w = .ok (.string ⟨ys.toArray⟩) w := by
 obtain ⟨A, c, rfl, h1, h2, h3⟩ := hv
 cases A with
 | none =>
  have hl : ys = [] := by
   cases ys with
   | nil => rfl
   | cons y l => obtain ⟨b, off, uss, e, _⟩ := h3 (by simp); cases e
  subst hl
  simp only [convert, Sem.run_bind, run_underlying hs, run_underlying hd, run_underlying he, Result.andThen_ok, Conv.bytesToString, Sem.run_pure]
  rfl
 | some ad =>
  refine run_convert_bytes_back w src dst e ad c ys hs he hd fun j hj => ?_
  obtain ⟨b, off, uss, e, _, ha, hc⟩ := h3 (by omega)
  cases e
  rw [Addr.add_mid]
  exact hc _ _ (bytes_cells ha j hj)

theorem run_convert_int {src dst : TypeId} {d : TypeDesc} {kd kx : IntKind} {n : Int} (hs : P.underlying src = some d) (hd : P.underlying dst = some (.int kd)) : (convert src dst (.int kx n)).run P w = .ok (.int kd (kd.wrap n)) w := by
 simp only [convert, Sem.run_bind, run_underlying hs, run_underlying hd, Result.andThen_ok, Conv.intToInt, Sem.run_pure]

theorem freeze_same (w : World) (ad : Addr) (n : Nat) : (w.freeze ad n).heap.size = w.heap.size ∧ (∀ k, k ≠ ad.block → (w.freeze ad n).heap[k]? = w.heap[k]?) ∧ ∀ b o, (w.freeze ad n).cell? ⟨b, o, none⟩ = w.cell? ⟨b, o, none⟩ := by
 unfold World.freeze
 split
 ·exact ⟨rfl, fun _ _ => rfl, fun _ _ => rfl⟩
 ·refine ⟨by simp, fun k hk => by simp [Array.getElem?_modify, Ne.symm hk], fun b o => ?_⟩
  simp only [World.cell?]
  by_cases hb : ad.block = b
  ·subst hb
   simp only [Array.getElem?_modify, if_true]
   cases w.heap[ad.block]? with
   | none => rfl
   | some x => cases x <;> rfl
  ·simp [Array.getElem?_modify, hb]

theorem put_obj_row {s : GS} {i : Nat} {o : Ob} : look i (s.put (.obj i (some o))).objs = some o := by simp only [GS.put, look_lput_same]
theorem RepAt.frozenRow (h : RepAt E N U ob Z s a w) {i e : Nat} {xs : List UInt8} (hlo : look i s.objs = some (.row e .u8 xs true)) {g cap : Nat} {cur : Array Value} (hv : ob i = .slice (some ⟨g, 0, none⟩) xs.length cap) (hh : w.heap[g]? = some (.cells cur e (0, 0))) :
  RepAt E N U ob (fun b => Z b ∨ b = g) (s.put (.obj i none)) a (w.freeze ⟨g, cur.size, none⟩ 1) ∧ DR (w.freeze ⟨g, cur.size, none⟩ 1) (fun b => Z b ∨ b = g) (.sl .u8) xs [ob i] := by
 have hblk : blk (ob i) = some g := by rw [hv]; rfl
 have hg' := (Array.getElem?_eq_some_iff.1 hh).1
 obtain ⟨f1, f2, f3⟩ := freeze_same w ⟨g, cur.size, none⟩ 1
 have hk : Kept (fun b => some g = some b) w (w.freeze ⟨g, cur.size, none⟩ 1) := by
  refine ⟨?_, ?_, ?_, by omega, fun k hk hn => f2 k fun e => hn (by rw [e])⟩ <;> (unfold World.freeze; split <;> rfl)
 have h3 := h.noObj i
 have h4 := h3.world hk (fun b hZ e => by cases e; exact (h.own _ _ hlo rfl g hblk).1 hZ) (fun b e => by cases e; exact (h.own _ _ hlo rfl g hblk).2) (by
  intro j o2 hj b hbj e
  cases e
  have hne : j ≠ i := fun e => by subst e; simp only [GS.put, look_ldel_same] at hj; cases hj
  simp only [GS.put, look_ldel_ne hne] at hj
  cases ho2 : o2.own with
  | true => exact h.apart j i o2 _ hne hj hlo ho2 rfl g hbj hblk
  | false => exact (h.own _ _ hlo rfl g hblk).1 ((h.objs j o2 hj).2.1.block_Z ho2 g hbj))
 have h5 := h4.freeze (fun b => b = g) (fun b e => by rw [e, f1]; exact hg') (fun b e hlt => .inr ((h.own _ _ hlo rfl g hblk).2.elim (fun hm => e ▸ hm) (fun hge => by omega))) (by
  intro j o2 hj ho2 b hbj e
  subst e
  have hne : j ≠ i := fun e => by subst e; simp only [GS.put, look_ldel_same] at hj; cases hj
  simp only [GS.put, look_ldel_ne hne] at hj
  exact h.apart j i o2 _ hne hj hlo ho2 rfl _ hbj hblk)
 have hd0 : DR w (fun b => Z b ∨ b = g) (.sl .u8) xs [ob i] := row_DR (h.objs _ _ hlo).2.1 (fun _ h => .inl h) (fun b hb => .inr (by rw [hblk] at hb; cases hb; rfl))
 exact ⟨h5, hd0.mono ⟨by omega, fun b o _ _ => f3 b o⟩ (fun _ h => h)⟩
theorem op_convert (hT : TysOk P Γ) (h : RepAt E Γ.N U ob Z s a w) (hg : E.globs = Γ.globs) (hf : ∀ j, fresh ≤ j → j < fresh + 4 → ¬ U j) {sT d : TypeId} {x : Operand} (ho : o.op = .convert sT d x) (hr : (evalOp Γ fresh o).run s = some ws) :
  o.wp P a w (After E Γ.N U fresh s ws) Q := by
 simp only [evalOp, ho] at hr
 replace hr := tyR_ok hr
 obtain ⟨tj, hlj, hr⟩ := hr
 replace hr := tyR_ok hr
 obtain ⟨ti, hl, hr⟩ := hr
 have htj := hT _ _ hlj
 have hti := hT _ _ hl
 have hsh := hti.shape
 replace hr := svR_ok h hg hr
 obtain ⟨v, h1, h2, hr⟩ := hr
 have exec : ∀ z, (convert sT d (a.eval x)).run P w = .ok z w → (execOp a.eval o).run P w = .ok (.value z) w := by
  intro z hz
  simp only [execOp, ho, Sem.run_bind, hz, Result.andThen_ok, Sem.run_pure]
 split at hr
 ·rename_i hty
  rw [hty] at hsh
  split at hr
  ·obtain ⟨hv, hmax⟩ := h1.str
   obtain ⟨ds, hds, _⟩ := htj.row
   refine fin_pure h (exec (a.eval x) ?_) (vr h1) trivial hr
   rw [hv]
   simp only [convert, Sem.run_bind, run_underlying hds, run_underlying hsh, Result.andThen_ok, Sem.run_pure]
  ·split at hr
   ·rename_i htj'
    have hshj := htj.shape
    rw [htj'] at hshj
    replace hr := tyR_ok hr
    obtain ⟨te, hle, hr⟩ := hr
    have hshe := (hT _ _ hle).shape
    replace hr := run_cond hr
    obtain ⟨hb, hr⟩ := hr
    rw [Ty.same_eq hb] at hshe
    replace hr := listR_ok h h1 hr
    obtain ⟨ys, hr, h3, _⟩ := hr
    refine fin_pure h (exec _ (run_bytes_string hshj.1 hshe hsh h3)) (vr (v := .data .str ys) (sr_str ?_)) trivial hr
    obtain ⟨A, c, _, q1, q2, _⟩ := h3
    omega
   ·exact run_fail hr
 ·rename_i hty
  rw [hty] at hsh
  split at hr
  ·rename_i i
   replace hr := run_cond hr
   obtain ⟨hsd, hr⟩ := hr
   have hsd' := Nat.eq_of_beq_eq_true hsd
   subst hsd'
   replace hr := tyR_ok hr
   obtain ⟨te, hle, hr⟩ := hr
   have hshe := (hT _ _ hle).shape
   replace hr := run_cond hr
   obtain ⟨hb, hr⟩ := hr
   rw [Ty.same_eq hb] at hshe
   replace hr := run_obj hr
   obtain ⟨o', hlo, hr⟩ := hr
   split at hr
   ·rename_i e xs
    replace hr := run_chk hr
    obtain ⟨hp, hr⟩ := hr
    have hp' : 0 < List.length xs := by simpa using hp
    have hOR := (h.objs _ _ hlo).2.1
    obtain ⟨uss, q1, q2, _⟩ := hOR
    obtain ⟨g, cap, cur, hv, hh, hnc, hcm, hcs, ht⟩ := row_own q2 hp'
    have hx : a.eval x = ob i := h1
    have hblk : blk (ob i) = some g := by rw [hv]; rfl
    have hg' := (Array.getElem?_eq_some_iff.1 hh).1
    obtain ⟨f1, f2, f3⟩ := freeze_same w ⟨g, cur.size, none⟩ 1
    have hrun : (convert sT sT (a.eval x)).run P w = .ok (a.eval x) (w.freeze ⟨g, cur.size, none⟩ 1) := by
     rw [hx, hv]
     have hshape : w.shape? g = some (e, cur.size) := by simp [World.shape?, hh]
     simp only [convert, Sem.run_bind, run_underlying hsh.1, run_underlying hshe, Result.andThen_ok, BEq.rfl, markStringish, run_shape, hshape, run_freeze, Sem.run_pure]
    have hk : Kept (fun b => some g = some b) w (w.freeze ⟨g, cur.size, none⟩ 1) := by
     refine ⟨?_, ?_, ?_, by omega, fun k hk hn => f2 k fun e => hn (by rw [e])⟩ <;> (unfold World.freeze; split <;> rfl)
    have h3 := h.noObj i
    have h4 := h3.world hk (fun b hZ e => by cases e; exact (h.own _ _ hlo rfl g hblk).1 hZ) (fun b e => by cases e; exact (h.own _ _ hlo rfl g hblk).2) (by
     intro j o2 hj b hbj e
     cases e
     have hne : j ≠ i := fun e => by subst e; simp only [GS.put, look_ldel_same] at hj; cases hj
     simp only [GS.put, look_ldel_ne hne] at hj
     cases ho2 : o2.own with
     | true => exact h.apart j i o2 _ hne hj hlo ho2 rfl g hbj hblk
     | false => exact (h.own _ _ hlo rfl g hblk).1 ((h.objs j o2 hj).2.1.block_Z ho2 g hbj))
    have h5 := h4.freeze (fun b => b = g) (fun b e => by rw [e, f1]; exact hg') (fun b e hlt => .inr ((h.own _ _ hlo rfl g hblk).2.elim (fun hm => e ▸ hm) (fun hge => by omega))) (by
     intro j o2 hj ho2 b hbj e
     subst e
     have hne : j ≠ i := fun e => by subst e; simp only [GS.put, look_ldel_same] at hj; cases hj
     simp only [GS.put, look_ldel_ne hne] at hj
     exact h.apart j i o2 _ hne hj hlo ho2 rfl _ hbj hblk)
    have hd0 : DR w (fun b => Z b ∨ b = g) (.sl .u8) xs [ob i] := row_DR (h.objs _ _ hlo).2.1 (fun _ h => .inl h) (fun b hb => .inr (by rw [hblk] at hb; cases hb; rfl))
    have hd : DR (w.freeze ⟨g, cur.size, none⟩ 1) (fun b => Z b ∨ b = g) (.sl .u8) xs [ob i] := hd0.mono ⟨by omega, fun b o _ _ => f3 b o⟩ (fun _ h => h)
    refine fin_val (v := a.eval x) ?_ h5 (vr (v := .data (.sl .u8) xs) ⟨_, hd, by rw [pk_one rfl]; exact hx⟩) trivial (fun _ h => .inl h) hr
    simp only [execOp, ho, Sem.run_bind, hrun, Result.andThen_ok, Sem.run_pure]
   ·exact run_fail hr
  ·rename_i xs
   replace hr := tyR_ok hr
   obtain ⟨te, hle, hr⟩ := hr
   have hshe := (hT _ _ hle).shape
   replace hr := run_cond hr
   obtain ⟨hb, hr⟩ := hr
   simp only [Bool.and_eq_true] at hb
   rw [Ty.same_eq hb.1] at hshe
   have htj' := htj.shape
   rw [Ty.same_eq hb.2] at htj'
   obtain ⟨hv, hmax⟩ := h1.str
   have hsz : (ByteArray.mk xs.toArray).size = xs.length := by simp [ByteArray.size]
   have hge := grownCap_ge w xs.length 0 ti.el
   have hcm : grownCap w xs.length 0 ti.el ≤ maxLen := grownCap_le_maxLen w xs.length 0 ti.el hmax
   have hrun := Lib.run_convert_string_bytes (P := P) w sT d ti.el ⟨xs.toArray⟩ htj' hsh.1 hshe
   rw [hsz] at hrun
   have hcl : (Lib.bytesCells w ti.el ⟨xs.toArray⟩).toList = (xs.map fun b => Value.int .u8 (b.toNat : Int)) ++ List.replicate (grownCap w xs.length 0 ti.el - xs.length) (.int .u8 0) := by
    unfold Lib.bytesCells; rw [hsz]; simp
   have hfl : (xs.map fun b => [Value.int .u8 (b.toNat : Int)]).flatten = xs.map fun b => Value.int .u8 (b.toNat : Int) := by
    rw [flat_u8]; simp [Lib.strCells]
   have hd0 := h.world (Kept.drew w) (fun _ _ e => e) (fun _ e => e.elim) (fun _ _ _ _ _ e => e)
   have hrow := hd0.newRow (hf fresh (Nat.le_refl _) (by omega)) (e := ti.el) (t := .u8) (xs := xs) (uss := xs.map fun b => [.int .u8 (b.toNat : Int)]) (cs := Lib.bytesCells w ti.el ⟨xs.toArray⟩) (cap := grownCap w xs.length 0 ti.el) (all2_u8 xs)
    (by rw [← Array.length_toList, hcl]; simp [Ty.size]; omega) hge hcm (by
     rw [hcl, hfl]
     exact List.take_left' (by simp [Ty.size]))
   obtain ⟨h5, hd⟩ := hrow.frozenRow (i := fresh) put_obj_row (g := w.heap.size) (cap := grownCap w xs.length 0 ti.el) (cur := Lib.bytesCells w ti.el ⟨xs.toArray⟩) (if_pos rfl) (heap_alloc_new w.drew _)
   refine fin_val (v := .slice (some ⟨w.heap.size, 0, none⟩) xs.length (grownCap w xs.length 0 ti.el)) ?_ (ws0 := [.obj fresh (some (.row ti.el .u8 xs true)), .obj fresh none]) h5 (vr (v := .data (.sl .u8) xs) ⟨_, hd, ?_⟩) trivial fresh_in hr
   ·simp only [execOp, ho, hv, Sem.run_bind, hrun, Result.andThen_ok, Sem.run_pure]; rfl
   ·rw [if_pos rfl]; rfl
  ·exact run_fail hr
 ·rename_i t' hns hnb
  obtain ⟨ds, hds, _⟩ := htj.row
  have key : ∀ kd, ((ti.ty = .i64 ∧ kd = .i64) ∨ (ti.ty = .u8 ∧ kd = .u8) ∨ (ti.ty = .u16 ∧ kd = .u16) ∨ (ti.ty = .u32 ∧ kd = .u32) ∨ (ti.ty = .u64 ∧ kd = .u64)) → P.underlying d = some (.int kd) → o.wp P a w (After E Γ.N U fresh s ws) Q := by
   intro kd hk hu
   obtain ⟨r, kx, n, hr, e, q1, q2⟩ := convSV_ok (P := P) (U := U) hk h1 hr
   exact fin_pure h (exec _ (by rw [e]; exact run_convert_int hds hu)) (vr q1) q2 hr
  cases hty : ti.ty <;> rw [hty] at hsh <;> simp only [TSh] at hsh
  case i64 => exact key .i64 (.inl ⟨hty, rfl⟩) hsh
  case u8 => exact key .u8 (.inr (.inl ⟨hty, rfl⟩)) hsh
  case u16 => exact key .u16 (.inr (.inr (.inl ⟨hty, rfl⟩))) hsh
  case u32 => exact key .u32 (.inr (.inr (.inr (.inl ⟨hty, rfl⟩)))) hsh
  case u64 => exact key .u64 (.inr (.inr (.inr (.inr ⟨hty, rfl⟩)))) hsh
  all_goals
   rw [hty] at hr
   simp [convSV, RT.run] at hr
end
end Go.Proofs.YtehbbcdhahnkgaaGreat
