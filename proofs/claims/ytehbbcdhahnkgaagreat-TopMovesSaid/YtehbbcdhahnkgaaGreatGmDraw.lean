/- The ghost machine and the machine: regions in any order. -/
import Derived.Test.YtehbbcdhahnkgaaGreatGmCode
set_option linter.unusedVariables false
set_option linter.unusedSimpArgs false
namespace Go.Proofs.YtehbbcdhahnkgaaGreat
open Go
abbrev Loc := Bool × Nat
def GS.like (s s' : GS) (l : Loc) : Prop := match l with
 | (false, n) => look n s'.slots = look n s.slots
 | (true, n) => look n s'.objs = look n s.objs
theorem like_of_eqv {s s' : GS} (h : s.eqv s') (l : Loc) : s.like s' l := by rcases l with ⟨_ | _, n⟩; exact h.slots n; exact h.objs n
theorem like_trans {s s' s'' : GS} {l : Loc} (h : s.like s' l) (k : s'.like s'' l) : s.like s'' l := by rcases l with ⟨_ | _, n⟩; exact Eq.trans k h; exact Eq.trans k h
theorem like_symm {s s' : GS} {l : Loc} (h : s.like s' l) : s'.like s l := by rcases l with ⟨_ | _, n⟩; exact Eq.symm h; exact Eq.symm h
theorem eqv_of_like {s s' : GS} (h : ∀ l, s.like s' l) (hn : s'.next = s.next) : s.eqv s' := ⟨fun n => h (false, n), fun n => h (true, n), hn⟩
theorem put_ne_at {s : GS} {x : Wr} {l : Loc} (h : x.at ≠ l) : s.like (s.put x) l := by
 rcases l with ⟨_ | _, n⟩ <;> rcases x with ⟨m, _ | v⟩ | ⟨m, _ | v⟩ <;> simp only [GS.like, GS.put] <;> (try rfl)
 ·exact look_ldel_ne (fun e => h (by simp [Wr.at, e])) _
 ·exact look_lput_ne (fun e => h (by simp [Wr.at, e])) _ _
 ·exact look_ldel_ne (fun e => h (by simp [Wr.at, e])) _
 ·exact look_lput_ne (fun e => h (by simp [Wr.at, e])) _ _
theorem put_same_at {s s' : GS} {x : Wr} : (s.put x).like (s'.put x) x.at := by
 rcases x with ⟨m, _ | v⟩ | ⟨m, _ | v⟩ <;> simp only [GS.like, GS.put, Wr.at, look_ldel_same, look_lput_same]
theorem put_like {s s' : GS} {x : Wr} {l : Loc} (h : s.like s' l) : (s.put x).like (s'.put x) l := by
 by_cases e : x.at = l
 ·subst e; exact put_same_at
 ·exact like_trans (like_symm (put_ne_at e)) (like_trans h (put_ne_at e))
theorem app_like : ∀ {ws : List Wr} {s s' : GS} {l : Loc}, s.like s' l → (s.app ws).like (s'.app ws) l
 | [], _, _, _, h => h
 | x :: ws, s, s', l, h => by rw [app_cons, app_cons]; exact app_like (put_like h)
theorem like_refl (s : GS) (l : Loc) : s.like s l := like_of_eqv (GS.eqv.refl s) l
theorem app_filter : ∀ {ws : List Wr} {s : GS} {l : Loc}, (s.app (ws.filter fun x => x.at == l)).like (s.app ws) l
 | [], s, l => like_refl s l
 | x :: ws, s, l => by
  simp only [List.filter_cons]
  split
  ·rw [app_cons, app_cons]; exact app_filter
  ·rename_i h
   rw [app_cons]
   exact like_trans (like_symm (app_like (like_symm (put_ne_at (x := x) (by simpa using h))))) app_filter
theorem app_like_of {ws ws' : List Wr} {s : GS} {l : Loc} (h : ws.filter (fun x => x.at == l) = ws'.filter fun x => x.at == l) : (s.app ws).like (s.app ws') l :=
 like_trans (like_symm app_filter) (by rw [h]; exact app_filter)

def agree (rd : List Loc) (s σ : GS) : Prop := ∀ l, l ∈ rd → s.like σ l
theorem runD_run {R : Type} {r : R} : ∀ {rt : RT} {lg : List Loc} {s : GS} {K : GS → List Loc → List Loc → Option R}, rt.runD lg s K = some r →
  ∃ ws s1 rd, s.eqv s1 ∧ K (s1.app ws) rd (ws.map Wr.at) = some r ∧ (∀ l, l ∈ lg → l ∈ rd) ∧ ∀ σ, agree rd s σ → rt.run σ = some ws := by
 intro rt
 induction rt with
 | fail => intro lg s K h; simp [RT.runD] at h
 | get n k ih =>
  intro lg s K h
  simp only [RT.runD] at h
  split at h
  ·rename_i g hg
   obtain ⟨ws, s1, rd, h1, h2, h3, h4⟩ := ih _ h
   refine ⟨ws, s1, rd, h1, h2, fun l hl => h3 l (by simp [hl]), fun σ hσ => ?_⟩
   have := hσ (false, n) (h3 _ (by simp))
   simp only [GS.like] at this
   simp only [RT.run, this, hg]; exact h4 σ hσ
  ·cases h
 | obj n k ih =>
  intro lg s K h
  simp only [RT.runD] at h
  split at h
  ·rename_i g hg
   obtain ⟨ws, s1, rd, h1, h2, h3, h4⟩ := ih _ h
   refine ⟨ws, s1, rd, h1, h2, fun l hl => h3 l (by simp [hl]), fun σ hσ => ?_⟩
   have := hσ (true, n) (h3 _ (by simp))
   simp only [GS.like] at this
   simp only [RT.run, this, hg]; exact h4 σ hσ
  ·cases h
 | chk b k ih =>
  intro lg s K h
  cases b
  ·simp [RT.runD] at h
  ·simp only [RT.runD, cond_true] at h
   obtain ⟨ws, s1, rd, h1, h2, h3, h4⟩ := ih h
   exact ⟨ws, s1, rd, h1, h2, h3, fun σ hσ => by simp only [RT.run, cond_true]; exact h4 σ hσ⟩
 | split n k ih =>
  intro lg s K h
  simp only [RT.runD] at h
  split at h
  ·rename_i b hb
   cases b
   ·simp only [cond_false] at h
    obtain ⟨ws, s1, rd, h1, h2, h3, h4⟩ := ih _ h
    refine ⟨ws, s1, rd, (refine_eqv hb).trans h1, h2, fun l hl => h3 l (by simp [hl]), fun σ hσ => ?_⟩
    have := hσ (false, n) (h3 _ (by simp))
    simp only [GS.like] at this
    simp only [RT.run, this, hb]
    exact h4 σ fun l hl => like_trans (like_symm (like_of_eqv (refine_eqv hb) l)) (hσ l hl)
   ·simp only [cond_true] at h
    obtain ⟨ws, s1, rd, h1, h2, h3, h4⟩ := ih _ h
    refine ⟨ws, s1, rd, (refine_eqv hb).trans h1, h2, fun l hl => h3 l (by simp [hl]), fun σ hσ => ?_⟩
    have := hσ (false, n) (h3 _ (by simp))
    simp only [GS.like] at this
    simp only [RT.run, this, hb]
    exact h4 σ fun l hl => like_trans (like_symm (like_of_eqv (refine_eqv hb) l)) (hσ l hl)
  ·rename_i hb
   obtain ⟨ws, s1, rd, h1, h2, h3, h4⟩ := ih _ h
   refine ⟨ws, s1, rd, h1, h2, fun l hl => h3 l (by simp [hl]), fun σ hσ => ?_⟩
   have := hσ (false, n) (h3 _ (by simp))
   simp only [GS.like] at this
   simp only [RT.run, this, hb]; exact h4 σ hσ
  ·cases h
 | bind o k ih =>
  intro lg s K h
  cases o with
  | none => simp [RT.runD] at h
  | some y =>
   simp only [RT.runD, Option.bind] at h
   obtain ⟨ws, s1, rd, h1, h2, h3, h4⟩ := ih _ h
   exact ⟨ws, s1, rd, h1, h2, h3, fun σ hσ => by simp only [RT.run, Option.bind]; exact h4 σ hσ⟩
 | fin ws => intro lg s K h; exact ⟨ws, s, lg, GS.eqv.refl s, h, fun _ h => h, fun σ _ => rfl⟩

abbrev Tr := List (List Wr × List Loc)
theorem regD_seq {Γ : Ctx} {R : Type} {r : R} {K : GS → Option R} {ops : List Oper} {B : Nat} : ∀ {l : List Oper} {i : Nat} {acc : List (List Loc × List Loc)} {s : GS}, regD Γ ops B l i acc s K = some r →
  ∃ (t : Tr) (sN : GS), t.length = l.length ∧ (∀ k o, l[k]? = some o → ∃ ws rd, t[k]? = some (ws, rd) ∧ ∀ σ, agree rd (s.app ((t.take k).flatMap (·.1))) σ → (opRT Γ ops (B + 4 * (i + k)) o).run σ = some ws) ∧
   (s.app (t.flatMap (·.1))).eqv sN ∧ K sN = some r ∧ drawOk (befores ops) [] (acc ++ t.map fun p => (p.2, p.1.map Wr.at)) = true ∧ backB 0 ops = true
 | [], i, acc, s, h => by
  simp only [regD] at h
  obtain ⟨hc, h⟩ := cond_some' h
  simp only [Bool.and_eq_true] at hc
  exact ⟨[], s, rfl, fun k o hk => by simp at hk, GS.eqv.refl _, h, by simpa using hc.1, hc.2⟩
 | o :: l, i, acc, s, h => by
  simp only [regD] at h
  obtain ⟨ws, s1, rd, h1, h2, h3, h4⟩ := runD_run h
  obtain ⟨t, sN, q1, q2, q3, q4, q5, q6⟩ := regD_seq h2
  have he : (s.app ws).eqv (s1.app ws) := h1.app
  refine ⟨(ws, rd) :: t, sN, by simp [q1], fun k o' hk => ?_, ?_, q4, by simpa using q5, q6⟩
  ·cases k with
   | zero =>
    simp at hk; subst hk
    exact ⟨ws, rd, rfl, fun σ hσ => h4 σ (by simpa [app_nil] using hσ)⟩
   | succ k =>
    obtain ⟨ws', rd', p1, p2⟩ := q2 k o' (by simpa using hk)
    refine ⟨ws', rd', by simpa using p1, fun σ hσ => ?_⟩
    rw [show i + (k + 1) = i + 1 + k by omega]
    refine p2 σ fun l hl => ?_
    have := hσ l hl
    simp only [List.take_succ_cons, List.flatMap_cons] at this
    rw [app_append] at this
    exact like_trans (like_symm (like_of_eqv (GS.eqv.app he) l)) this
  ·simp only [List.flatMap_cons]
   rw [app_append]
   exact (GS.eqv.app he).trans q3

theorem touch_iff {x y : List Loc} : touch x y = true ↔ ∃ p, p ∈ x ∧ p ∈ y := by
 induction x with
 | nil => simp [touch]
 | cons p x ih =>
  simp only [touch, Bool.or_eq_true, ih, List.any_eq_true, Bool.and_eq_true, beq_iff_eq]
  constructor
  ·rintro (⟨q, hq, h1, h2⟩ | ⟨q, h1, h2⟩)
   ·have e : p = q := Prod.ext h1 (Nat.eq_of_beq_eq_true h2)
    exact ⟨p, by simp, e ▸ hq⟩
   ·exact ⟨q, by simp [h1], h2⟩
  ·rintro ⟨q, h1, h2⟩
   rcases List.mem_cons.1 h1 with rfl | h1
   ·exact .inl ⟨q, h2, rfl, nbeq_self _⟩
   ·exact .inr ⟨q, h1, h2⟩
theorem clashes_false {bs : List Nat} {x : List Loc × List Loc} {j : Nat} : ∀ {l : List (List Loc × List Loc)} {i : Nat}, clashes bs x j l i = false → ∀ k y, l[k]? = some y → clash y x = true → (bs.getD j 0).testBit (i + k) = true
 | [], i, h, k, y, hk, _ => by simp at hk
 | z :: l, i, h, k, y, hk, hc => by
  simp only [clashes, Bool.or_eq_false_iff] at h
  cases k with
  | zero => simp at hk; subst hk; have := h.1; rw [hc] at this; simpa using this
  | succ k => rw [show i + (k + 1) = i + 1 + k by omega]; exact clashes_false h.2 k y (by simpa using hk) hc
theorem drawOk_spec {bs : List Nat} : ∀ {l done : List (List Loc × List Loc)}, drawOk bs done l = true → ∀ j k x y, done.length ≤ k → j < k → (done ++ l)[k]? = some x → (done ++ l)[j]? = some y → clash y x = true → (bs.getD k 0).testBit j = true
 | [], done, h, j, k, x, y, hk, hj, hx, hy, hc => by simp at hx; have := (List.getElem?_eq_some_iff.1 hx).1; omega
 | z :: l, done, h, j, k, x, y, hk, hj, hx, hy, hc => by
  simp only [drawOk, Bool.and_eq_true, Bool.not_eq_true'] at h
  by_cases e : k = done.length
  ·subst e
   simp at hx; subst hx
   rw [List.getElem?_append_left hj] at hy
   have := clashes_false h.1 j y hy hc
   rwa [Nat.zero_add] at this
  ·refine drawOk_spec h.2 j k x y (by simp; omega) hj (by simpa using hx) (by simpa using hy) hc

theorem bef_keep : ∀ {l : List Oper} {acc : List Nat} {j : Nat}, j < acc.length → (l.foldl (fun bs o => bs ++ [befStep bs o]) acc).getD j 0 = acc.getD j 0
 | [], _, _, _ => rfl
 | o :: l, acc, j, h => by
  rw [List.foldl_cons, bef_keep (by simp; omega)]
  simp [List.getD, List.getElem?_append_left h]
theorem bef_at : ∀ {l : List Oper} {acc : List Nat} {k : Nat} {o : Oper}, l[k]? = some o → ∃ bs, (l.foldl (fun bs o => bs ++ [befStep bs o]) acc).getD (acc.length + k) 0 = befStep bs o ∧ ∀ j, j < acc.length + k → bs.getD j 0 = (l.foldl (fun bs o => bs ++ [befStep bs o]) acc).getD j 0
 | [], _, _, _, h => by simp at h
 | x :: l, acc, k, o, h => by
  cases k with
  | zero =>
   simp at h; subst h
   refine ⟨acc, ?_, fun j hj => ?_⟩
   ·rw [List.foldl_cons, bef_keep (by simp)]
    simp [List.getD]
   ·rw [bef_keep (l := x :: l) (by omega)]
  | succ k =>
   obtain ⟨bs, h1, h2⟩ := bef_at (acc := acc ++ [befStep acc x]) (show l[k]? = some o by simpa using h)
   simp only [List.length_append, List.length_singleton] at h1 h2
   refine ⟨bs, ?_, fun j hj => ?_⟩
   ·rw [List.foldl_cons, ← h1]; congr 1; omega
   ·rw [List.foldl_cons]; exact h2 j (by omega)
theorem foldl_bits {es : List Edge} {bs : List Nat} {m i : Nat} (h : (es.foldl (fun m e => if Region.binds .any e then m ||| 2 ^ e.on ||| bs.getD e.on 0 else m) m).testBit i = true) :
  m.testBit i = true ∨ ∃ e ∈ es, Region.binds .any e = true ∧ (e.on = i ∨ (bs.getD e.on 0).testBit i = true) := by
 induction es generalizing m with
 | nil => exact .inl h
 | cons e es ih =>
  rw [List.foldl_cons] at h
  rcases ih h with h | ⟨e', h1, h2⟩
  ·split at h
   ·rename_i hb
    rw [Nat.testBit_or, Nat.testBit_or, Bool.or_eq_true, Bool.or_eq_true] at h
    rcases h with (h | h) | h
    ·exact .inl h
    ·rw [Nat.testBit_two_pow] at h; exact .inr ⟨e, by simp, hb, .inl (by simpa using h)⟩
    ·exact .inr ⟨e, by simp, hb, .inr h⟩
   ·exact .inl h
  ·exact .inr ⟨e', by simp [h1], h2⟩
theorem backB_at : ∀ {l : List Oper} {i k : Nat} {o : Oper}, backB i l = true → l[k]? = some o → ∀ e ∈ o.after.toList, Region.binds .any e = true → e.on < i + k
 | [], _, _, _, _, h, _, _, _ => by simp at h
 | x :: l, i, k, o, hb, h, e, he, hbe => by
  simp only [backB, Bool.and_eq_true, List.all_eq_true] at hb
  cases k with
  | zero =>
   simp at h; subst h
   have := hb.1 e he
   rw [hbe] at this
   have h2 : Nat.blt e.on i = true := by simpa only [Bool.not_true, Bool.false_or] using this
   have := Nat.le_of_ble_eq_true h2
   omega
  | succ k => have := backB_at hb.2 (show l[k]? = some o by simpa using h) e he hbe; omega
theorem bef_closed {ops : List Oper} (hb : backB 0 ops = true) {S : Nat → Prop} (hS : ∀ (k : Nat) (o : Oper), S k → ops[k]? = some o → ∀ e ∈ o.after.toList, Region.binds .any e = true → S e.on) :
  ∀ (k : Nat) (o : Oper), ops[k]? = some o → (∀ e ∈ o.after.toList, Region.binds .any e = true → S e.on) → ∀ i, ((befores ops).getD k 0).testBit i = true → S i := by
 intro k
 induction k using Nat.strongRecOn with
 | _ k ih =>
  intro o ho he i hi
  obtain ⟨bs, h1, h2⟩ := bef_at (acc := []) ho
  simp only [List.length_nil, Nat.zero_add] at h1 h2
  have : (befores ops).getD k 0 = befStep bs o := h1
  rw [this] at hi
  rcases foldl_bits hi with h | ⟨e, h3, h4, h5⟩
  ·simp at h
  ·have hlt := backB_at hb ho e h3 h4
   rw [Nat.zero_add] at hlt
   rcases h5 with rfl | h5
   ·exact he e h3 h4
   ·rw [h2 e.on hlt] at h5
    have hkl := (List.getElem?_eq_some_iff.1 ho).1
    have hoe : ops[e.on]? = some ops[e.on] := List.getElem?_eq_getElem (by omega)
    exact ih e.on hlt _ hoe (fun e' q1 q2 => hS e.on _ (he e h3 h4) hoe e' q1 q2) i h5

def Tr.w (t : Tr) (k : Nat) : List Wr := (t.getD k ([], [])).1
def Tr.of (t : Tr) (p : Nat → Bool) : List Wr := (List.range t.length).flatMap fun k => if p k then t.w k else []
theorem flatMap_take {α β : Type} (f : α → List β) (d : α) : ∀ (t : List α) (i : Nat), (t.take i).flatMap f = (List.range t.length).flatMap fun k => if k < i then f (t.getD k d) else []
 | [], i => by simp
 | x :: t, i => by
  rw [List.length_cons, List.range_succ_eq_map, List.flatMap_cons, List.flatMap_map]
  cases i with
  | zero => simp
  | succ i =>
   rw [List.take_succ_cons, List.flatMap_cons, flatMap_take f d t i]
   simp
theorem tr_take (t : Tr) (i : Nat) : (t.take i).flatMap (·.1) = t.of fun k => decide (k < i) := by
 rw [flatMap_take (·.1) ([], [])]
 simp [Tr.of, Tr.w]
theorem tr_all (t : Tr) {p : Nat → Bool} (h : ∀ k, k < t.length → p k = true) : t.flatMap (·.1) = t.of p := by
 have := tr_take t t.length
 rw [List.take_length] at this
 rw [this]
 unfold Tr.of
 have : ∀ {l : List Nat}, (∀ k ∈ l, k < t.length) → l.flatMap (fun k => if decide (k < t.length) = true then t.w k else []) = l.flatMap (fun k => if p k = true then t.w k else []) := by
  intro l
  induction l with
  | nil => intro _; rfl
  | cons x l ih => intro hl; rw [List.flatMap_cons, List.flatMap_cons, ih fun k hk => hl k (by simp [hk])]; simp [hl x (by simp), h x (hl x (by simp))]
 exact this fun k hk => by simpa using hk
theorem tr_filter {t : Tr} {p p' : Nat → Bool} {l : Loc} (h : ∀ k, k < t.length → (p k = p' k ∨ (t.w k).filter (fun x => x.at == l) = [])) : (t.of p).filter (fun x => x.at == l) = (t.of p').filter fun x => x.at == l := by
 unfold Tr.of
 rw [List.filter_flatMap, List.filter_flatMap]
 have : ∀ {q : List Nat}, (∀ k ∈ q, k < t.length) → q.flatMap (fun k => ((if p k = true then t.w k else []).filter fun x => x.at == l)) = q.flatMap (fun k => ((if p' k = true then t.w k else []).filter fun x => x.at == l)) := by
  intro q
  induction q with
  | nil => intro _; rfl
  | cons x q ih =>
   intro hq
   rw [List.flatMap_cons, List.flatMap_cons, ih fun k hk => hq k (by simp [hk])]
   congr 1
   rcases h x (hq x (by simp)) with e | e
   ·rw [e]
   ·split <;> split <;> simp [e]
 exact this fun k hk => by simpa using hk
theorem filter_nil_of {ws : List Wr} {l : Loc} (h : l ∉ ws.map Wr.at) : ws.filter (fun x => x.at == l) = [] := by
 rw [List.filter_eq_nil_iff]
 intro x hx e
 exact h (List.mem_map.2 ⟨x, hx, by simpa using e⟩)
theorem tr_snoc {t : Tr} {p : Nat → Bool} {i : Nat} {l : Loc} (hi : i < t.length) (hp : p i = false) (h : l ∈ (t.w i).map Wr.at → ∀ k, k < t.length → i < k → p k = true → l ∉ (t.w k).map Wr.at) :
  (t.of p ++ t.w i).filter (fun x => x.at == l) = (t.of fun k => p k || decide (k = i)).filter fun x => x.at == l := by
 have hr : List.range t.length = List.range i ++ i :: List.range' (i + 1) (t.length - i - 1) := by
  rw [List.range_eq_range', List.range_eq_range', ← List.range'_succ]
  have := List.range'_append_1 (s := 0) (m := i) (n := t.length - i - 1 + 1)
  rw [Nat.zero_add] at this
  rw [this]; congr 1; omega
 have hsame : ∀ {q : List Nat}, (∀ k ∈ q, k ≠ i) → q.flatMap (fun k => if (p k || decide (k = i)) = true then t.w k else []) = q.flatMap (fun k => if p k = true then t.w k else []) := by
  intro q
  induction q with
  | nil => intro _; rfl
  | cons x q ih => intro hq; rw [List.flatMap_cons, List.flatMap_cons, ih fun k hk => hq k (by simp [hk])]; simp [hq x (by simp)]
 unfold Tr.of
 rw [hr, List.flatMap_append, List.flatMap_append, List.flatMap_cons, List.flatMap_cons]
 rw [hsame (q := List.range i) (fun k hk => by simp at hk; omega), hsame (q := List.range' (i + 1) (t.length - i - 1)) (fun k hk => by simp [List.mem_range'_1] at hk; omega)]
 simp only [hp, Bool.false_or, decide_true, if_true, Bool.false_eq_true, if_false, List.nil_append, List.filter_append, List.append_assoc]
 congr 1
 by_cases hl : l ∈ (t.w i).map Wr.at
 ·have : ((List.range' (i + 1) (t.length - i - 1)).flatMap (fun k => if p k = true then t.w k else [])).filter (fun x => x.at == l) = [] := by
   rw [List.filter_eq_nil_iff]
   intro x hx e
   obtain ⟨k, hk, hxk⟩ := List.mem_flatMap.1 hx
   rw [List.mem_range'_1] at hk
   cases hpk : p k with
   | false => rw [hpk] at hxk; simp at hxk
   | true => rw [hpk] at hxk; exact h hl k (by omega) (by omega) hpk (List.mem_map.2 ⟨x, by simpa using hxk, by simpa using e⟩)
  rw [this]; simp
 ·rw [filter_nil_of hl]; simp
theorem countP_one {p p' : Nat → Bool} {i : Nat} (hp : p i = true) (hp' : p' i = false) (h : ∀ k, k ≠ i → p' k = p k) : ∀ n, i < n → (List.range n).countP p = (List.range n).countP p' + 1
 | 0, hi => by omega
 | n + 1, hi => by
  rw [List.range_succ, List.countP_append, List.countP_append]
  have hb : ∀ n, n ≤ i → (List.range n).countP p = (List.range n).countP p' := by
   intro n hn
   apply List.countP_congr
   intro k hk
   simp at hk
   rw [h k (by omega)]
  by_cases e : n = i
  ·subst e
   rw [hb n (Nat.le_refl _)]
   simp [hp, hp']
  ·rw [countP_one hp hp' h n (by omega)]
   simp [List.countP_cons, h n e]
   omega

section
variable {P : Program} {Γ : Ctx} {E : Env} {Q : Exit → Act → World → Prop}
theorem regD_ok (hT : TysOk P Γ) (hC : CtrsOk P Γ) (hg : E.globs = Γ.globs) (hP : PX E Γ Q) {R : Type} {r : R} {K : GS → Option R} {ops : Array Oper} {B : Nat} {s : GS} {U : Nat → Prop} {ob : Nat → Value} {Z : Nat → Prop} {a : Act} {w : World}
  (hK : ∀ s a w, RepOk E Γ.N s a w → K s = some r → Q .normal a w) (h : RepAt E Γ.N U ob Z s a w) (hU : ∀ j, U j → j < B) (hn : s.next = B + 4 * ops.size) (hr : regD Γ ops.toList B ops.toList 0 [] s K = some r) :
  wpAny P .any ops Q ops.size (Array.replicate ops.size false) a w := by
 obtain ⟨t, sN, t1, t2, t3, t4, t5, t6⟩ := regD_seq hr
 have t1' : t.length = ops.size := by simpa using t1
 rw [List.nil_append] at t5
 have clash_of : ∀ (j k : Nat) (l : Loc), j < k → k < t.length → (l ∈ (t.getD k ([], [])).2 ∨ l ∈ (t.w k).map Wr.at) → l ∈ (t.w j).map Wr.at → ((befores ops.toList).getD k 0).testBit j = true := by
  intro j k l hj hk hl hlj
  have e1 : (t.map fun p => (p.2, p.1.map Wr.at))[k]? = some ((t.getD k ([], [])).2, (t.w k).map Wr.at) := by
   simp [Tr.w, List.getElem?_eq_getElem hk]
  have e2 : (t.map fun p => (p.2, p.1.map Wr.at))[j]? = some ((t.getD j ([], [])).2, (t.w j).map Wr.at) := by
   simp [Tr.w, List.getElem?_eq_getElem (show j < t.length by omega)]
  refine drawOk_spec t5 j k _ _ (by simp) hj (by rw [List.nil_append]; exact e1) (by rw [List.nil_append]; exact e2) ?_
  unfold clash
  rw [Bool.or_eq_true, Bool.or_eq_true]
  rcases hl with hl | hl
  ·exact .inl (.inl (touch_iff.2 ⟨l, hlj, hl⟩))
  ·exact .inl (.inr (touch_iff.2 ⟨l, hlj, hl⟩))
 have clash_of' : ∀ (j k : Nat) (l : Loc), j < k → k < t.length → l ∈ (t.w k).map Wr.at → l ∈ (t.getD j ([], [])).2 → ((befores ops.toList).getD k 0).testBit j = true := by
  intro j k l hj hk hl hlj
  have e1 : (t.map fun p => (p.2, p.1.map Wr.at))[k]? = some ((t.getD k ([], [])).2, (t.w k).map Wr.at) := by
   simp [Tr.w, List.getElem?_eq_getElem hk]
  have e2 : (t.map fun p => (p.2, p.1.map Wr.at))[j]? = some ((t.getD j ([], [])).2, (t.w j).map Wr.at) := by
   simp [Tr.w, List.getElem?_eq_getElem (show j < t.length by omega)]
  refine drawOk_spec t5 j k _ _ (by simp) hj (by rw [List.nil_append]; exact e1) (by rw [List.nil_append]; exact e2) ?_
  unfold clash
  rw [Bool.or_eq_true, Bool.or_eq_true]
  exact .inr (touch_iff.2 ⟨l, hl, hlj⟩)
 have key : ∀ (fuel : Nat) (listed : Array Bool) (a : Act) (w : World) (ob : Nat → Value) (Z : Nat → Prop), listed.size = ops.size →
   (List.range ops.size).countP (fun k => !(listed.getD k false)) = fuel →
   (∀ (k : Nat) (o : Oper), listed.getD k false = true → ops.toList[k]? = some o → ∀ e ∈ o.after.toList, Region.binds .any e = true → listed.getD e.on false = true) →
   RepAt E Γ.N (fun j => j < B ∨ ∃ k, listed.getD k false = true ∧ B + 4 * k ≤ j ∧ j < B + 4 * k + 4) ob Z (s.app (t.of fun k => listed.getD k false)) a w → wpAny P .any ops Q fuel listed a w := by
  intro fuel
  have fin : ∀ (listed : Array Bool) (a : Act) (w : World) (ob : Nat → Value) (Z : Nat → Prop), listed.size = ops.size → (∀ k, k < ops.size → listed.getD k false = true) →
    RepAt E Γ.N (fun j => j < B ∨ ∃ k, listed.getD k false = true ∧ B + 4 * k ≤ j ∧ j < B + 4 * k + 4) ob Z (s.app (t.of fun k => listed.getD k false)) a w → Q .normal a w := by
   intro listed a w ob Z hsz hall hrep
   refine hK sN a w ⟨_, ob, Z, hrep.congr (fun n => ?_) (fun n => ?_), fun j hj => ?_⟩ t4
   ·rw [t3.slots n, tr_all t (p := fun k => listed.getD k false) (fun k hk => hall k (by omega))]
   ·rw [t3.objs n, tr_all t (p := fun k => listed.getD k false) (fun k hk => hall k (by omega))]
   ·rw [t3.next, app_next, hn]
    rcases hj with hj | ⟨k, h1, h2, h3⟩
    ·omega
    ·have : k < listed.size := by
      rcases Nat.lt_or_ge k listed.size with h | h
      ·exact h
      ·simp [Array.getD, Nat.not_lt.2 h] at h1
     omega
  have none_ready : ∀ (listed : Array Bool), listed.size = ops.size → Region.ready .any ops listed = [] → ∀ k, k < ops.size → listed.getD k false = true := by
   intro listed hsz hnil k
   induction k using Nat.strongRecOn with
   | _ k ih =>
    intro hk
    cases hlk : listed.getD k false with
    | true => rfl
    | false =>
     have : k ∈ Region.ready .any ops listed := by
      unfold Region.ready
      rw [List.mem_filter]
      refine ⟨by simpa using hk, ?_⟩
      have hk2 : k < listed.size := by omega
      have e1 : listed.getD k true = false := by simpa [Array.getD, hk2] using hlk
      simp only [e1, Bool.not_false, Bool.true_and]
      rw [Array.getElem?_eq_getElem hk]
      simp only [Option.map_some, Option.getD_some]
      rw [Array.all_eq_true']
      intro e he
      cases hb : Region.binds .any e with
      | false => rfl
      | true =>
       have hlt := backB_at (k := k) (o := ops[k]) t6 (by simp [hk]) e (by simpa using he) hb
       rw [Nat.zero_add] at hlt
       rw [ih e.on hlt (by omega)]; rfl
     rw [hnil] at this; simp at this
  induction fuel with
  | zero =>
   intro listed a w ob Z hsz hcnt hcl hrep
   have hall : ∀ k, k < ops.size → listed.getD k false = true := by
    intro k hk
    have := List.countP_eq_zero.1 hcnt k (by simpa using hk)
    simpa using this
   refine ⟨?_, fin listed a w ob Z hsz hall hrep⟩
   unfold Region.ready
   rw [List.filter_eq_nil_iff]
   intro k hk
   have hk' : k < ops.size := by simpa using hk
   have e1 : listed.getD k true = true := by have := hall k hk'; simpa [Array.getD, show k < listed.size by omega] using this
   simp [e1]
  | succ fuel ih =>
   intro listed a w ob Z hsz hcnt hcl hrep
   refine ⟨fun hnil => fin listed a w ob Z hsz (none_ready listed hsz hnil) hrep, fun i hi => ?_⟩
   unfold Region.ready at hi
   rw [List.mem_filter, Bool.and_eq_true] at hi
   obtain ⟨hi1, hi2, hi3⟩ := hi
   have hin : i < ops.size := by simpa using hi1
   have hil : i < listed.size := by omega
   have hun : listed.getD i false = false := by simpa [Array.getD, hil] using hi2
   have ho : ops[i]? = some ops[i] := Array.getElem?_eq_getElem hin
   have ho' : ops.toList[i]? = some ops[i] := by simp [hin]
   rw [ho] at hi3
   simp only [Option.map_some, Option.getD_some] at hi3
   rw [Array.all_eq_true'] at hi3
   have hedge : ∀ e ∈ ops[i].after.toList, Region.binds .any e = true → listed.getD e.on false = true := by
    intro e he hb
    have := hi3 e (by simpa using he)
    rw [hb] at this
    simpa using this
   have hbef := bef_closed t6 (S := fun k => listed.getD k false = true) hcl i _ ho' hedge
   have hbef2 : ∀ k, listed.getD k false = true → k < t.length → ∀ j, ((befores ops.toList).getD k 0).testBit j = true → listed.getD j false = true := by
    intro k hk hkl
    have hk2 : k < ops.size := by omega
    exact bef_closed t6 (S := fun k => listed.getD k false = true) hcl k ops[k] (by simp [hk2]) (hcl k _ hk (by simp [hk2]))
   obtain ⟨ws, rd, q1, q2⟩ := t2 i _ ho'
   have hw : t.w i = ws := by simp [Tr.w, q1]
   have hrd : (t.getD i ([], [])).2 = rd := by simp [q1]
   have hrun := q2 (s.app (t.of fun k => listed.getD k false)) (by
    intro l hl
    rw [tr_take]
    refine app_like_of (tr_filter fun k hk => ?_)
    by_cases hlk : l ∈ (t.w k).map Wr.at
    ·left
     rcases Nat.lt_trichotomy k i with h1 | h1 | h1
     ·rw [hbef k (clash_of k i l h1 (by omega) (.inl (by rw [hrd]; exact hl)) hlk)]; simp [h1]
     ·subst h1; rw [hun]; simp
     ·cases hlis : listed.getD k false with
      | false => simp; omega
      | true =>
       have := hbef2 k hlis hk i (clash_of' i k l h1 hk hlk (by rw [hrd]; exact hl))
       rw [hun] at this; cases this
    ·exact .inr (filter_nil_of hlk))
   rw [Nat.zero_add] at hrun
   have hop := opRT_ok (Q := Q) hT hC hrep hg hP (fun j h1 h2 h3 => by
    rcases h3 with h3 | ⟨k, h3, h4, h5⟩
    ·omega
    ·have : k = i := by omega
     subst this; rw [hun] at h3; cases h3) hrun
   have hset : ∀ k, (listed.setIfInBounds i true).getD k false = (listed.getD k false || decide (k = i)) := by
    intro k
    by_cases e : k = i
    ·subst e; simp [Array.getD, hil]
    ·simp [e]; rw [Array.getElem?_setIfInBounds_ne (Ne.symm e)]
   have step : ∀ a' w', After E Γ.N (fun j => j < B ∨ ∃ k, listed.getD k false = true ∧ B + 4 * k ≤ j ∧ j < B + 4 * k + 4) (B + 4 * i) (s.app (t.of fun k => listed.getD k false)) ws a' w' → wpAny P .any ops Q fuel (listed.setIfInBounds i true) a' w' := by
    rintro a' w' ⟨ob', Z', hrep'⟩
    have hlike : ∀ l, (s.app (t.of (fun k => listed.getD k false) ++ ws)).like (s.app (t.of fun k => (listed.setIfInBounds i true).getD k false)) l := by
     intro l
     rw [← hw, funext hset]
     refine app_like_of (tr_snoc (by omega) hun fun hl k hk hik hlis hlk => ?_)
     have := hbef2 k hlis hk i (clash_of i k l hik hk (.inr hlk) hl)
     rw [hun] at this; cases this
    have heqv := eqv_of_like hlike (by rw [app_next, app_next])
    rw [← app_append] at hrep'
    refine ih _ a' w' ob' Z' (by simpa using hsz) ?_ ?_ ((hrep'.congr heqv.slots heqv.objs).mono fun j hj => ?_)
    ·have := countP_one (p := fun k => !(listed.getD k false)) (p' := fun k => !((listed.setIfInBounds i true).getD k false)) (i := i) (by rw [hun]; rfl) (by rw [hset]; simp) (fun k hk => by rw [hset]; simp [hk]) ops.size hin
     omega
    ·intro k o hk hko e he hb
     rw [hset] at hk ⊢
     by_cases e1 : k = i
     ·subst e1
      rw [ho'] at hko; cases hko
      rw [hedge e he hb]; rfl
     ·have : listed.getD k false = true := by simpa [e1] using hk
      rw [hcl k o this hko e he hb]; rfl
    ·rcases hj with (hj | ⟨k, h1, h2⟩) | hj
     ·exact .inl hj
     ·exact .inr ⟨k, by rw [hset, h1]; rfl, h2⟩
     ·exact .inr ⟨i, by rw [hset]; simp, hj⟩
   unfold wpOp
   rw [ho]
   simp only
   split at hop
   ·rename_i hwt
    rw [if_pos hwt]
    exact .inl (Oper.wp_mono step hop)
   ·rename_i hwt
    rw [if_neg hwt]
    exact step _ _ hop
 have hemp : t.of (fun k => (Array.replicate ops.size false).getD k false) = [] := by
  unfold Tr.of
  rw [List.flatMap_eq_nil_iff]
  intro k _
  by_cases hk : k < ops.size <;> simp [Array.getD, hk]
 refine key ops.size _ a w ob Z (by simp) ?_ ?_ ?_
 ·have : (List.range ops.size).countP (fun k => !((Array.replicate ops.size false).getD k false)) = (List.range ops.size).length := by
   rw [List.countP_eq_length]
   intro k hk
   have hk : k < ops.size := by simpa using hk
   simp [Array.getD, hk]
  rw [this]; simp
 ·intro k o hk
  by_cases hk2 : k < ops.size <;> simp [Array.getD, hk2] at hk
 ·rw [hemp, app_nil]
  exact h.mono fun j hj => .inl (hU j hj)
end
end Go.Proofs.YtehbbcdhahnkgaaGreat
