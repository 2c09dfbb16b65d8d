/- The ghost machine and the machine: regions in a fixed order. -/
import Derived.Test.YtehbbcdhahnkgaaGreatGmEval
import Derived.Orders
set_option linter.unusedVariables false
set_option linter.unusedSimpArgs false
namespace Go.Proofs.YtehbbcdhahnkgaaGreat
open Go

structure GS.eqv (s s' : GS) : Prop where
 slots : ∀ n, look n s'.slots = look n s.slots
 objs : ∀ n, look n s'.objs = look n s.objs
 next : s'.next = s.next
theorem GS.eqv.refl (s : GS) : s.eqv s := ⟨fun _ => rfl, fun _ => rfl, rfl⟩
theorem GS.eqv.trans {s s' s'' : GS} (h : s.eqv s') (k : s'.eqv s'') : s.eqv s'' := ⟨fun n => (k.slots n).trans (h.slots n), fun n => (k.objs n).trans (h.objs n), k.next.trans h.next⟩
theorem GS.eqv.put {s s' : GS} (h : s.eqv s') (x : Wr) : (s.put x).eqv (s'.put x) := by
 cases x with
 | slot n v =>
  refine ⟨fun m => ?_, fun m => ?_, ?_⟩
  ·cases v with
   | none =>
    by_cases e : m = n
    ·subst e; simp only [GS.put, look_ldel_same]
    ·simp only [GS.put, look_ldel_ne e]; exact h.slots m
   | some v =>
    by_cases e : m = n
    ·subst e; simp only [GS.put, look_lput_same]
    ·simp only [GS.put, look_lput_ne e]; exact h.slots m
  ·cases v <;> exact h.objs m
  ·cases v <;> exact h.next
 | obj n v =>
  refine ⟨fun m => ?_, fun m => ?_, ?_⟩
  ·cases v <;> exact h.slots m
  ·cases v with
   | none =>
    by_cases e : m = n
    ·subst e; simp only [GS.put, look_ldel_same]
    ·simp only [GS.put, look_ldel_ne e]; exact h.objs m
   | some v =>
    by_cases e : m = n
    ·subst e; simp only [GS.put, look_lput_same]
    ·simp only [GS.put, look_lput_ne e]; exact h.objs m
  ·cases v <;> exact h.next
theorem GS.eqv.app : ∀ {ws : List Wr} {s s' : GS}, s.eqv s' → (s.app ws).eqv (s'.app ws)
 | [], _, _, h => h
 | x :: ws, s, s', h => by rw [app_cons, app_cons]; exact GS.eqv.app (h.put x)
theorem app_next : ∀ {ws : List Wr} {s : GS}, (s.app ws).next = s.next
 | [], _ => rfl
 | x :: ws, s => by rw [app_cons, app_next]; rcases x with ⟨n, _ | v⟩ | ⟨n, _ | v⟩ <;> rfl
theorem refine_eqv {s : GS} {n : Nat} {b : Bool} (h : look n s.slots = some (.sv (.data .bool b))) : s.eqv (s.refine n b) := by
 refine ⟨fun m => ?_, fun _ => rfl, rfl⟩
 by_cases e : m = n
 ·subst e; simp only [GS.refine, look_lput_same]; exact h.symm
 ·simp only [GS.refine, look_lput_ne e]
theorem run_congr : ∀ {rt : RT} {s s' : GS}, s.eqv s' → rt.run s' = rt.run s := by
 intro rt
 induction rt with
 | fail => intros; rfl
 | get n k ih => intro s s' h; simp only [RT.run, h.slots]; split <;> first | rfl | exact ih _ h
 | obj n k ih => intro s s' h; simp only [RT.run, h.objs]; split <;> first | rfl | exact ih _ h
 | chk b k ih => intro s s' h; cases b <;> simp only [RT.run, cond_true, cond_false]; exact ih h
 | split n k ih => intro s s' h; simp only [RT.run, h.slots]; split <;> first | rfl | exact ih _ h
 | bind o k ih => intro s s' h; cases o <;> simp only [RT.run, Option.bind]; exact ih _ h
 | fin ws => intros; rfl
theorem runK_run {R : Type} {r : R} : ∀ {rt : RT} {s : GS} {K : GS → Option R}, rt.runK s K = some r → ∃ ws s1, rt.run s = some ws ∧ s.eqv s1 ∧ K (s1.app ws) = some r := by
 intro rt
 induction rt with
 | fail => intro s K h; simp [RT.runK] at h
 | get n k ih =>
  intro s K h
  simp only [RT.runK] at h
  split at h
  ·rename_i g hg
   obtain ⟨ws, s1, h1, h2, h3⟩ := ih _ h
   exact ⟨ws, s1, by simp only [RT.run, hg]; exact h1, h2, h3⟩
  ·cases h
 | obj n k ih =>
  intro s K h
  simp only [RT.runK] at h
  split at h
  ·rename_i g hg
   obtain ⟨ws, s1, h1, h2, h3⟩ := ih _ h
   exact ⟨ws, s1, by simp only [RT.run, hg]; exact h1, h2, h3⟩
  ·cases h
 | chk b k ih =>
  intro s K h
  cases b
  ·simp [RT.runK] at h
  ·simp only [RT.runK, cond_true] at h
   obtain ⟨ws, s1, h1, h2, h3⟩ := ih h
   exact ⟨ws, s1, by simp only [RT.run, cond_true]; exact h1, h2, h3⟩
 | split n k ih =>
  intro s K h
  simp only [RT.runK] at h
  split at h
  ·rename_i b hb
   cases b
   ·simp only [cond_false] at h
    obtain ⟨ws, s1, h1, h2, h3⟩ := ih _ h
    exact ⟨ws, s1, by simp only [RT.run, hb]; rw [← run_congr (refine_eqv hb)]; exact h1, (refine_eqv hb).trans h2, h3⟩
   ·simp only [cond_true] at h
    obtain ⟨ws, s1, h1, h2, h3⟩ := ih _ h
    exact ⟨ws, s1, by simp only [RT.run, hb]; rw [← run_congr (refine_eqv hb)]; exact h1, (refine_eqv hb).trans h2, h3⟩
  ·rename_i hb
   obtain ⟨ws, s1, h1, h2, h3⟩ := ih _ h
   exact ⟨ws, s1, by simp only [RT.run, hb]; exact h1, h2, h3⟩
  ·cases h
 | bind o k ih =>
  intro s K h
  cases o with
  | none => simp [RT.runK] at h
  | some y =>
   simp only [RT.runK, Option.bind] at h
   obtain ⟨ws, s1, h1, h2, h3⟩ := ih _ h
   exact ⟨ws, s1, by simp only [RT.run, Option.bind]; exact h1, h2, h3⟩
 | fin ws => intro s K h; exact ⟨ws, s, rfl, GS.eqv.refl s, h⟩

section
variable {P : Program} {Γ : Ctx} {E : Env} {U : Nat → Prop} {ob : Nat → Value} {Z : Nat → Prop} {s : GS} {a : Act} {w : World} {ws : List Wr} {fresh : Nat} {o : Oper} {Q : Exit → Act → World → Prop}
theorem opRT_ok (hT : TysOk P Γ) (hC : CtrsOk P Γ) (h : RepAt E Γ.N U ob Z s a w) (hg : E.globs = Γ.globs) (hP : PX E Γ Q) (hf : ∀ j, fresh ≤ j → j < fresh + 4 → ¬ U j) {ops : Array Oper} (hr : (opRT Γ ops.toList fresh o).run s = some ws) :
  if Region.wanted o (yielded ops a.tmps) then o.wp P a w (After E Γ.N U fresh s ws) Q else After E Γ.N U fresh s ws (a.put o.dst undef) w := by
 unfold opRT at hr
 have hund : (undR Γ o).run s = some ws → After E Γ.N U fresh s ws (a.put o.dst undef) w := by
  intro hr
  unfold undR at hr
  cases hd : o.dst with
  | none => rw [hd] at hr; simp only [RT.run, Option.some.injEq] at hr; subst hr; exact ⟨ob, Z, h.mono fun _ h => .inl h⟩
  | some d =>
   rw [hd] at hr
   obtain ⟨hb, hr⟩ := run_cond hr
   simp only [RT.run, Option.some.injEq] at hr; subst hr
   refine ⟨ob, Z, ?_⟩
   rw [app_cons, app_nil]
   exact (h.slot (Nat.lt_of_lt_of_le (Nat.lt_succ_self d) (Nat.le_of_ble_eq_true hb)) (g := .tup []) ⟨[], rfl, trivial⟩ (by simp [GV.ids])).mono fun _ h => .inl h
 cases hgd : o.guard with
 | none =>
  rw [hgd] at hr
  rw [if_pos (by simp [Region.wanted, hgd])]
  exact evalOp_ok hT hC h hg hP hf hr
 | some jw =>
  obtain ⟨j, want⟩ := jw
  rw [hgd] at hr
  simp only at hr
  split at hr
  ·rename_i d hd
   have hd' : (ops[j]?).bind (·.dst) = some d := by rw [← hd]; simp
   simp only [RT.run] at hr
   split at hr
   ·rename_i b hb
    obtain ⟨h1, h2, h3⟩ := h.slots d _ hb
    have hv := SR.bool (ob := ob) h2
    have hlt : d < a.tmps.size := by rw [h.size]; exact h1
    have hy : yielded ops a.tmps j = some b := by
     unfold yielded
     rw [hd', Option.bind_some, Array.getElem?_eq_getElem hlt]
     have : a.tmps[d] = .bool b := by rw [← hv]; simp [hlt]
     rw [this]
    cases hbw : b == want
    ·rw [hbw] at hr
     simp only [cond_false] at hr
     rw [if_neg (by simp only [Region.wanted, hgd, hy]; simpa using hbw)]
     exact hund hr
    ·rw [hbw] at hr
     simp only [cond_true] at hr
     rw [if_pos (by simp only [Region.wanted, hgd, hy]; simpa using hbw)]
     exact evalOp_ok hT hC h hg hP hf hr
   ·rename_i hb
    obtain ⟨h1, ⟨us, h2, h3⟩, h4⟩ := h.slots d _ hb
    have hlt : d < a.tmps.size := by rw [h.size]; exact h1
    have hus : us = [] := by cases us <;> simp_all [All2]
    subst hus
    have hy : yielded ops a.tmps j = none := by
     unfold yielded
     rw [hd', Option.bind_some, Array.getElem?_eq_getElem hlt]
     have : a.tmps[d] = .tuple #[] := by have := h2; simp [hlt] at this; exact this
     rw [this]
    rw [if_neg (by simp [Region.wanted, hgd, hy])]
    exact hund hr
   ·cases hr
  ·exact run_fail hr

def RepOk (E : Env) (N : Nat) (s : GS) (a : Act) (w : World) : Prop := ∃ U ob Z, RepAt E N U ob Z s a w ∧ ∀ j, U j → j < s.next
theorem RepOk.congr {N : Nat} {s s' : GS} (h : RepOk E N s a w) (hs : s.eqv s') : RepOk E N s' a w := by
 obtain ⟨U, ob, Z, h1, h2⟩ := h
 exact ⟨U, ob, Z, h1.congr hs.slots hs.objs, fun j hj => by rw [hs.next]; exact h2 j hj⟩

theorem regK_ok (hT : TysOk P Γ) (hC : CtrsOk P Γ) (hg : E.globs = Γ.globs) (hP : PX E Γ Q) {R : Type} {r : R} {K : GS → Option R} {ops : Array Oper} {B : Nat}
  (hK : ∀ s a w, RepOk E Γ.N s a w → K s = some r → Q .normal a w) : ∀ {l : List Oper} {i : Nat} {s : GS} {a : Act} {w : World} {U : Nat → Prop} {ob : Nat → Value} {Z : Nat → Prop},
  i ≤ ops.size → ops.toList.drop i = l → RepAt E Γ.N U ob Z s a w → (∀ j, U j → j < B + 4 * i) → s.next = B + 4 * ops.size → regK Γ ops.toList B l i s K = some r → wpOps P ops Q (List.range' i l.length) a w
 | [], i, s, a, w, U, ob, Z, hle, hl, h, hU, hn, hr => by
  simp only [regK] at hr
  have hi : ops.size ≤ i := by simpa using hl
  have e : i = ops.size := by omega
  exact hK s a w ⟨U, ob, Z, h, fun j hj => by rw [hn, ← e]; exact hU j hj⟩ hr
 | o :: l, i, s, a, w, U, ob, Z, hle, hl, h, hU, hn, hr => by
  simp only [regK] at hr
  obtain ⟨ws, s1, h1, h2, h3⟩ := runK_run hr
  have hi : ops[i]? = some o := by
   have : (ops.toList.drop i)[0]? = some o := by rw [hl]; rfl
   simpa using this
  have hl' : ops.toList.drop (i + 1) = l := by rw [← List.drop_drop, hl]; rfl
  have step : ∀ a' w', After E Γ.N U (B + 4 * i) s ws a' w' → wpOps P ops Q (List.range' (i + 1) l.length) a' w' := by
   rintro a' w' ⟨ob', Z', q⟩
   have hq := h2.app (ws := ws)
   refine regK_ok hT hC hg hP hK (Array.getElem?_eq_some_iff.1 hi).1 hl' (q.congr hq.slots hq.objs) (fun j hj => ?_) (by rw [hq.next, app_next]; exact hn) h3
   rcases hj with hj | hj
   ·have := hU j hj; omega
   ·omega
  have hop := opRT_ok (Q := Q) hT hC h hg hP (fun j h1 h2 h3 => by have := hU j h3; omega) h1
  simp only [List.length_cons, List.range'_succ, wpOps, hi]
  split at hop
  ·rename_i hw
   rw [if_pos hw]
   exact .inl (Oper.wp_mono step hop)
  ·rename_i hw
   rw [if_neg hw]
   exact step _ _ hop
end
end Go.Proofs.YtehbbcdhahnkgaaGreat
