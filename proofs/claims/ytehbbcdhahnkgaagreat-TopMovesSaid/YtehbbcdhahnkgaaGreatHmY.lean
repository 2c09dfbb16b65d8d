/- The ghost machine: an evaluator of the program's text over plain data, and its soundness. -/
import Derived.Test.YtehbbcdhahnkgaaGreatHmX
import Derived.Maps.AppendAt
import Derived.OwnWalk
import Derived.Deep.MidRow
import Derived.Laws.Externs
import Derived.Orders
import Derived.Below
set_option linter.unusedVariables false
set_option linter.unusedSimpArgs false
namespace Go.Proofs.YtehbbcdhahnkgaaGreat.Hm
open Go

theorem bt_true {α : Type} (x y : α) : bt true x y = x := rfl
theorem bt_false {α : Type} (x y : α) : bt false x y = y := rfl
theorem forceN_eq {α : Type} (n : Nat) (k : Nat → α) : forceN n k = k n := by cases n <;> rfl
theorem forceI_eq {α : Type} (n : Int) (k : Int → α) : forceI n k = k n := by
 cases n with
 | ofNat m => exact forceN_eq m fun m => k (.ofNat m)
 | negSucc m => exact forceN_eq m fun m => k (.negSucc m)
theorem forceX_eq {α : Type} (x : IV) (k : IV → α) : forceX x k = k x := by
 cases x with
 | lit n => exact forceI_eq n fun n => k (.lit n)
 | sym i c => exact forceI_eq c fun c => k (.sym i c)
theorem forceV_eq {α : Type} (v : HV) (k : HV → α) : forceV v k = k v := by
 cases v <;> simp only [forceV, forceN_eq, forceX_eq]

section
variable {α : Type}
theorem Tr.get_lf (n : Nat) : (Tr.lf : Tr α).get n = none := rfl
theorem Tr.get_nd (l r : Tr α) (v : Option α) (n : Nat) : (Tr.nd l v r).get n = if n = 0 then v else if n % 2 = 1 then l.get (n / 2) else r.get (n / 2 - 1) := by
 show bt (Nat.beq n 0) v (bt (Nat.beq (n % 2) 1) (l.get (n / 2)) (r.get (n / 2 - 1))) = _
 rcases hb : Nat.beq n 0 with _ | _
 ·rw [bt_false, if_neg (fun e => by subst e; cases hb)]
  rcases hc : Nat.beq (n % 2) 1 with _ | _
  ·rw [bt_false, if_neg (fun e => by rw [e] at hc; cases hc)]
  ·rw [bt_true, if_pos (Nat.eq_of_beq_eq_true hc)]
 ·rw [bt_true, if_pos (Nat.eq_of_beq_eq_true hb)]
theorem Tr.set_lf (u : Option α) (n : Nat) : (Tr.lf : Tr α).set u n = Tr.sing u n n := rfl
theorem Tr.set_nd (u : Option α) (l r : Tr α) (v : Option α) (n : Nat) : (Tr.nd l v r).set u n = if n = 0 then .nd l u r else if n % 2 = 1 then .nd (l.set u (n / 2)) v r else .nd l v (r.set u (n / 2 - 1)) := by
 show bt (Nat.beq n 0) (Tr.nd l u r) (bt (Nat.beq (n % 2) 1) (Tr.nd (l.set u (n / 2)) v r) (Tr.nd l v (r.set u (n / 2 - 1)))) = _
 rcases hb : Nat.beq n 0 with _ | _
 ·rw [bt_false, if_neg (fun e => by subst e; cases hb)]
  rcases hc : Nat.beq (n % 2) 1 with _ | _
  ·rw [bt_false, if_neg (fun e => by rw [e] at hc; cases hc)]
  ·rw [bt_true, if_pos (Nat.eq_of_beq_eq_true hc)]
 ·rw [bt_true, if_pos (Nat.eq_of_beq_eq_true hb)]
theorem Tr.get_sing (u : Option α) : ∀ (f n k : Nat), n ≤ f → (Tr.sing u f n).get k = if k = n then u else none := by
 intro f
 induction f with
 | zero =>
  intro n k h
  have : n = 0 := by omega
  subst this
  simp only [Tr.sing, Tr.get_nd, Tr.get_lf]
  split <;> simp
 | succ f ih =>
  intro n k h
  simp only [Tr.sing]
  rcases hb : Nat.beq n 0 with _ | _
  ·have hn : n ≠ 0 := fun e => by subst e; cases hb
   simp only [cond_false]
   rcases hc : Nat.beq (n % 2) 1 with _ | _
   ·have hm : n % 2 ≠ 1 := fun e => by rw [e] at hc; cases hc
    simp only [cond_false, Tr.get_nd, Tr.get_lf]
    by_cases k0 : k = 0
    ·rw [if_pos k0, if_neg (by omega)]
    ·rw [if_neg k0]
     by_cases k1 : k % 2 = 1
     ·rw [if_pos k1, if_neg (fun e => by omega)]
     ·rw [if_neg k1, ih _ _ (by omega)]
      by_cases e : k = n
      ·subst e; rw [if_pos rfl, if_pos rfl]
      ·rw [if_neg e, if_neg (by omega)]
   ·have hm := Nat.eq_of_beq_eq_true hc
    simp only [cond_true, Tr.get_nd, Tr.get_lf]
    by_cases k0 : k = 0
    ·rw [if_pos k0, if_neg (by omega)]
    ·rw [if_neg k0]
     by_cases k1 : k % 2 = 1
     ·rw [if_pos k1, ih _ _ (by omega)]
      by_cases e : k = n
      ·subst e; rw [if_pos rfl, if_pos rfl]
      ·rw [if_neg e, if_neg (by omega)]
     ·rw [if_neg k1, if_neg (fun e => by omega)]
  ·have hn := Nat.eq_of_beq_eq_true hb
   subst hn
   simp only [cond_true, Tr.get_nd, Tr.get_lf]
   split <;> simp
theorem Tr.get_set (u : Option α) : ∀ (t : Tr α) (n k : Nat), (t.set u n).get k = if k = n then u else t.get k := by
 intro t
 induction t with
 | lf => intro n k; rw [Tr.set_lf, Tr.get_sing u n n k (Nat.le_refl _), Tr.get_lf]
 | nd l v r ihl ihr =>
  intro n k
  rw [Tr.set_nd]
  by_cases n0 : n = 0
  ·rw [if_pos n0, Tr.get_nd, Tr.get_nd]
   subst n0
   by_cases k0 : k = 0
   ·rw [if_pos k0, if_pos k0]
   ·rw [if_neg k0, if_neg k0, if_neg k0]
  ·rw [if_neg n0]
   by_cases n1 : n % 2 = 1
   ·rw [if_pos n1, Tr.get_nd, Tr.get_nd]
    by_cases k0 : k = 0
    ·rw [if_pos k0, if_pos k0, if_neg (by omega)]
    ·rw [if_neg k0, if_neg k0]
     by_cases k1 : k % 2 = 1
     ·rw [if_pos k1, if_pos k1, ihl]
      by_cases e : k = n
      ·subst e; rw [if_pos rfl, if_pos rfl]
      ·rw [if_neg e, if_neg (by omega)]
     ·rw [if_neg k1, if_neg k1, if_neg (fun e => by omega)]
   ·rw [if_neg n1, Tr.get_nd, Tr.get_nd]
    by_cases k0 : k = 0
    ·rw [if_pos k0, if_pos k0, if_neg (by omega)]
    ·rw [if_neg k0, if_neg k0]
     by_cases k1 : k % 2 = 1
     ·rw [if_pos k1, if_pos k1, if_neg (fun e => by omega)]
     ·rw [if_neg k1, if_neg k1, ihr]
      by_cases e : k = n
      ·subst e; rw [if_pos rfl, if_pos rfl]
      ·rw [if_neg e, if_neg (by omega)]
theorem Tr.mem_toL : ∀ (t : Tr α) (a m : Nat) (acc : List (Nat × α)) (i : Nat) (x : α), (i, x) ∈ t.toL a m acc ↔ (i, x) ∈ acc ∨ ∃ n, i = a + m * n ∧ t.get n = some x := by
 intro t
 induction t with
 | lf => intro a m acc i x; simp [Tr.toL, Tr.get_lf]
 | nd l v r ihl ihr =>
  intro a m acc i x
  have key : ∀ acc', ((i, x) ∈ acc' ↔ (v = some x ∧ i = a) ∨ (i, x) ∈ r.toL (a + 2 * m) (2 * m) acc) → ((i, x) ∈ l.toL (a + m) (2 * m) acc' ↔ (i, x) ∈ acc ∨ ∃ n, i = a + m * n ∧ (Tr.nd l v r).get n = some x) := by
   intro acc' h
   rw [ihl, h, ihr]
   constructor
   ·rintro ((⟨h1, h2⟩ | h1 | ⟨n, h1, h2⟩) | ⟨n, h1, h2⟩)
    ·exact .inr ⟨0, by simpa using h2, by rw [Tr.get_nd, if_pos rfl]; exact h1⟩
    ·exact .inl h1
    ·refine .inr ⟨2 * n + 2, ?_, ?_⟩
     ·rw [h1, Nat.mul_add, Nat.add_assoc, Nat.mul_comm 2 m, Nat.mul_assoc, Nat.add_comm (m * 2)]
     ·rw [Tr.get_nd, if_neg (by omega), if_neg (by omega), show (2 * n + 2) / 2 - 1 = n by omega]; exact h2
    ·refine .inr ⟨2 * n + 1, ?_, ?_⟩
     ·rw [h1, Nat.mul_add, Nat.add_assoc, Nat.mul_comm 2 m, Nat.mul_assoc, Nat.mul_one, Nat.add_comm m]
     ·rw [Tr.get_nd, if_neg (by omega), if_pos (by omega), show (2 * n + 1) / 2 = n by omega]; exact h2
   ·rintro (h1 | ⟨n, h1, h2⟩)
    ·exact .inl (.inr (.inl h1))
    ·rw [Tr.get_nd] at h2
     by_cases n0 : n = 0
     ·rw [if_pos n0] at h2; subst n0; exact .inl (.inl ⟨h2, by simpa using h1⟩)
     ·rw [if_neg n0] at h2
      by_cases n1 : n % 2 = 1
      ·rw [if_pos n1] at h2
       refine .inr ⟨n / 2, ?_, h2⟩
       rw [h1]
       have : n = 2 * (n / 2) + 1 := by omega
       generalize n / 2 = q at this
       subst this
       rw [Nat.mul_add, Nat.add_assoc, Nat.mul_comm 2 m, Nat.mul_assoc, Nat.mul_one, Nat.add_comm m]
      ·rw [if_neg n1] at h2
       refine .inl (.inr (.inr ⟨n / 2 - 1, ?_, h2⟩))
       rw [h1]
       have : n = 2 * (n / 2 - 1) + 2 := by omega
       generalize n / 2 - 1 = q at this
       subst this
       rw [Nat.mul_add, Nat.add_assoc, Nat.mul_comm 2 m, Nat.mul_assoc, Nat.add_comm (m * 2)]
  cases v with
  | none => simp only [Tr.toL]; exact key _ (by simp)
  | some y =>
   simp only [Tr.toL]
   refine key _ ?_
   simp only [List.mem_cons, Prod.mk.injEq, Option.some.injEq]
   constructor
   ·rintro (⟨h1, h2⟩ | h)
    ·exact .inl ⟨h2.symm, h1⟩
    ·exact .inr h
   ·rintro (⟨h1, h2⟩ | h)
    ·exact .inl ⟨h2, h1.symm⟩
    ·exact .inr h
end

abbrev Mp := Nat → Option (Nat × Nat)
structure En where
 val : Nat → Int
 base : World
 vals : Nat → Value
instance : CoeFun En fun _ => Nat → Int := ⟨En.val⟩
def En.any : En := ⟨fun _ => 0, { heap := #[], tape := fun _ _ => 0, drawn := 0, os := default, output := #[] }, fun _ => undef⟩
def IV.ev (ρ : En) : IV → Int
 | .lit n => n
 | .sym i c => ρ i + c
def isOne : Value → Bool
 | .agg _ | .tuple _ => false
 | _ => true
abbrev osB : Nat := 9223372036854775808
def inKind (k : IntKind) (n : Int) : Bool := decide (k.min ≤ n) && decide (n ≤ k.max)
section
variable (ρ : En) (m : Mp)
mutual
def den : HV → Option Value
 | .b x => some (.bool x)
 | .i k x => bif inKind k (x.ev ρ) then some (.int k (x.ev ρ)) else none
 | .s x => some (.string ⟨x.toArray⟩)
 | .np => some (.pointer none)
 | .p id off => match m id with
  | some q => some (.pointer (some ⟨q.1, off, none⟩))
  | none => none
 | .ns => some (.slice none 0 0)
 | .sl id off n c op => match m id with
  | some q => some (.slice (some ⟨q.1, off, none⟩) n (c + bif op then q.2 else 0))
  | none => none
 | .es id o o' => match m id with
  | some q => some (.slice (some ⟨q.1, bif Nat.beq q.2 0 then o else o', none⟩) 0 q.2)
  | none => none
 | .fn f fs cs => match denL fs, denL cs with
  | some a, some b => some (.func (.func f) a.toArray b.toArray)
  | _, _ => none
 | .nf => some .nilFunc
 | .nm => some (.map none)
 | .mp id => match m id with
  | some q => some (.map (some q.1))
  | none => none
 | .kv j => bif isOne (ρ.vals j) then some (ρ.vals j) else none
 | .os id k => match m id with
  | some q => bif decide (((q.2 % osB : Nat) : Int) ≤ k.ev ρ) then some (.slice (some ⟨q.1, 0, none⟩) (q.2 % osB) (q.2 / osB)) else none
  | none => none
 | .kp j i => match ρ.vals j with
  | .slice (some ⟨b, o, none⟩) n _ => bif decide (0 ≤ i.ev ρ) && decide (i.ev ρ < n) then some (.pointer (some ⟨b, o + (i.ev ρ).toNat, none⟩)) else none
  | _ => none
 | .agg l => match l.all HV.one, denL l with
  | true, some a => some (.agg a.toArray)
  | _, _ => none
 | .tup l => match denL l with
  | some a => some (.tuple a.toArray)
  | none => none
def denL : List HV → Option (List Value)
 | [] => some []
 | v :: l => match den v, denL l with
  | some x, some y => some (x :: y)
  | _, _ => none
end
end
def Mp.le (m m' : Mp) : Prop := ∀ id q, m id = some q → m' id = some q
theorem Mp.le_refl (m : Mp) : m.le m := fun _ _ h => h
theorem Mp.le_trans {m m' m'' : Mp} (h : m.le m') (k : m'.le m'') : m.le m'' := fun _ _ e => k _ _ (h _ _ e)
section
variable {ρ : En} {m m' : Mp}
mutual
theorem den_mono (h : m.le m') : ∀ {v : HV} {x : Value}, den ρ m v = some x → den ρ m' v = some x
 | .b _, _, e | .i _ _, _, e | .s _, _, e | .np, _, e | .ns, _, e | .nf, _, e | .nm, _, e | .kv _, _, e | .kp _ _, _, e => by simpa only [den] using e
 | .p id off, x, e | .sl id off n c op, x, e | .es id o o', x, e | .mp id, x, e | .os id k, x, e => by
  simp only [den] at e ⊢
  split at e
  ·rename_i q hq; rw [h _ _ hq]; exact e
  ·cases e
 | .fn f fs cs, x, e => by
  simp only [den] at e ⊢
  split at e
  ·rename_i a b ha hb; rw [denL_mono h ha, denL_mono h hb]; exact e
  ·cases e
 | .agg l, x, e => by
  simp only [den] at e ⊢
  split at e
  ·rename_i a ha hb; rw [ha, denL_mono h hb]; exact e
  ·cases e
 | .tup l, x, e => by
  simp only [den] at e ⊢
  split at e
  ·rename_i a ha; rw [denL_mono h ha]; exact e
  ·cases e
theorem denL_mono (h : m.le m') : ∀ {l : List HV} {x : List Value}, denL ρ m l = some x → denL ρ m' l = some x
 | [], x, e => by simpa only [denL] using e
 | v :: l, x, e => by
  simp only [denL] at e ⊢
  split at e
  ·rename_i a b ha hb; rw [den_mono h ha, denL_mono h hb]; exact e
  ·cases e
end
theorem denL_cons {v : HV} {l : List HV} {xs : List Value} (h : denL ρ m (v :: l) = some xs) : ∃ x ys, den ρ m v = some x ∧ denL ρ m l = some ys ∧ xs = x :: ys := by
 simp only [denL] at h
 split at h
 ·rename_i a b ha hb; cases h; exact ⟨a, b, ha, hb, rfl⟩
 ·cases h
theorem denL_cons' {v : HV} {l : List HV} {x : Value} {ys : List Value} (h1 : den ρ m v = some x) (h2 : denL ρ m l = some ys) : denL ρ m (v :: l) = some (x :: ys) := by
 simp only [denL, h1, h2]
theorem denL_length : ∀ {l : List HV} {xs : List Value}, denL ρ m l = some xs → xs.length = l.length
 | [], xs, h => by simp only [denL] at h; cases h; rfl
 | v :: l, xs, h => by obtain ⟨x, ys, _, h2, rfl⟩ := denL_cons h; simp [denL_length h2]
theorem denL_append : ∀ {l l' : List HV} {xs ys : List Value}, denL ρ m l = some xs → denL ρ m l' = some ys → denL ρ m (l ++ l') = some (xs ++ ys)
 | [], l', xs, ys, h, h' => by simp only [denL] at h; cases h; exact h'
 | v :: l, l', xs, ys, h, h' => by obtain ⟨x, zs, h1, h2, rfl⟩ := denL_cons h; exact denL_cons' h1 (denL_append h2 h')
theorem denL_get : ∀ {l : List HV} {xs : List Value}, denL ρ m l = some xs → ∀ (i : Nat) (v : HV), l[i]? = some v → ∃ x, xs[i]? = some x ∧ den ρ m v = some x
 | [], xs, h, i, v, hi => by simp at hi
 | u :: l, xs, h, 0, v, hi => by obtain ⟨x, ys, h1, h2, rfl⟩ := denL_cons h; simp at hi; subst hi; exact ⟨x, rfl, h1⟩
 | u :: l, xs, h, i + 1, v, hi => by obtain ⟨x, ys, h1, h2, rfl⟩ := denL_cons h; simpa using denL_get h2 i v (by simpa using hi)
theorem denL_drop : ∀ {l : List HV} {xs : List Value} (n : Nat), denL ρ m l = some xs → denL ρ m (l.drop n) = some (xs.drop n)
 | [], xs, n, h => by simp only [denL] at h; cases h; simp [denL]
 | v :: l, xs, 0, h => h
 | v :: l, xs, n + 1, h => by obtain ⟨x, ys, h1, h2, rfl⟩ := denL_cons h; exact denL_drop n h2
theorem denL_take : ∀ {l : List HV} {xs : List Value} (n : Nat), denL ρ m l = some xs → denL ρ m (l.take n) = some (xs.take n)
 | [], xs, n, h => by simp only [denL] at h; cases h; simp [denL]
 | v :: l, xs, 0, h => by simp [denL]
 | v :: l, xs, n + 1, h => by obtain ⟨x, ys, h1, h2, rfl⟩ := denL_cons h; simpa using denL_cons' h1 (denL_take n h2)
theorem denL_cut {l : List HV} {xs : List Value} (o n : Nat) (h : denL ρ m l = some xs) : denL ρ m (cutAt l o n) = some ((xs.drop o).take n) := denL_take n (denL_drop o h)
def putV (xs : List Value) (o : Nat) (ys : List Value) : List Value := xs.take o ++ ys ++ xs.drop (o + ys.length)
theorem putAt_eq : ∀ (l : List HV) (o : Nat) (new : List HV), o ≤ l.length → putAt l o new = l.take o ++ new ++ l.drop (o + new.length)
 | l, 0, new, _ => by simp [putAt]
 | [], o + 1, new, h => by simp at h
 | x :: l, o + 1, new, h => by
  simp only [putAt, List.take_succ_cons, List.cons_append, List.cons.injEq, true_and]
  rw [putAt_eq l o new (by simpa using h)]
  congr 1
  rw [show o + 1 + new.length = (o + new.length) + 1 by omega, List.drop_succ_cons]
theorem denL_put {l : List HV} {xs : List Value} {o : Nat} {new : List HV} {ys : List Value} (h : denL ρ m l = some xs) (hn : denL ρ m new = some ys) (ho : o ≤ l.length) : denL ρ m (putAt l o new) = some (putV xs o ys) := by
 rw [putAt_eq l o new ho]
 unfold putV
 rw [denL_length hn]
 exact denL_append (denL_append (denL_take o h) hn) (denL_drop _ h)
theorem putV_length {xs ys : List Value} {o : Nat} (h : o + ys.length ≤ xs.length) : (putV xs o ys).length = xs.length := by
 unfold putV; simp only [List.length_append, List.length_take, List.length_drop]; omega
end

theorem isOne_ok {x : Value} (h : isOne x = true) : x.oneCell' = true ∧ x.cells = #[x] := by
 cases x <;> first | exact ⟨rfl, rfl⟩ | cases h
theorem one_cell {ρ : En} {m : Mp} {v : HV} {x : Value} (h : den ρ m v = some x) (ho : v.one = true) : x.oneCell' = true ∧ x.cells = #[x] := by
 cases v <;> simp only [HV.one] at ho <;> (try cases ho) <;> simp only [den] at h
 case i k y =>
  cases hb : inKind k (y.ev ρ) <;> rw [hb] at h <;> cases h
  exact ⟨rfl, rfl⟩
 case kv j =>
  cases hb : isOne (ρ.vals j) <;> rw [hb] at h <;> cases h
  exact isOne_ok hb
 case os id k =>
  split at h
  ·rename_i q hq
   cases hb : decide (((q.2 % osB : Nat) : Int) ≤ k.ev ρ) <;> rw [hb] at h <;> cases h
   exact ⟨rfl, rfl⟩
  ·cases h
 case kp j i =>
  split at h
  ·rename_i b o' n c hv
   cases hb : (decide (0 ≤ i.ev ρ) && decide (i.ev ρ < n)) <;> rw [hb] at h <;> cases h
   exact ⟨rfl, rfl⟩
  ·cases h
 all_goals (first
  | (cases h; exact ⟨rfl, rfl⟩)
  | (split at h <;> first | (cases h; exact ⟨rfl, rfl⟩) | cases h))
end Go.Proofs.YtehbbcdhahnkgaaGreat.Hm

namespace Go.Proofs.YtehbbcdhahnkgaaGreat.Hm
open Go
open Go.RowKit (Below)

abbrev Sl := Nat → Option HV
abbrev Hp := Nat → Option Ob
def upd {α : Type} (f : Nat → Option α) (n : Nat) (v : Option α) : Nat → Option α := fun k => if k = n then v else f k
def putS (S : Sl) : Wr → Sl
 | .slot n v => upd S n v
 | .obj _ _ => S
def putH (H : Hp) : Wr → Hp
 | .slot _ _ => H
 | .obj id o => upd H id o
def appS (S : Sl) (ws : List Wr) : Sl := ws.foldl putS S
def appH (H : Hp) (ws : List Wr) : Hp := ws.foldl putH H
theorem appS_cons (S : Sl) (x : Wr) (ws : List Wr) : appS S (x :: ws) = appS (putS S x) ws := rfl
theorem appH_cons (H : Hp) (x : Wr) (ws : List Wr) : appH H (x :: ws) = appH (putH H x) ws := rfl
theorem appS_append (S : Sl) (ws ws' : List Wr) : appS S (ws ++ ws') = appS (appS S ws) ws' := by simp [appS]
theorem appH_append (H : Hp) (ws ws' : List Wr) : appH H (ws ++ ws') = appH (appH H ws) ws' := by simp [appH]
theorem upd_same {α : Type} (f : Nat → Option α) (n : Nat) (v : Option α) : upd f n v n = v := by simp [upd]
theorem upd_ne {α : Type} (f : Nat → Option α) {n k : Nat} (v : Option α) (h : k ≠ n) : upd f n v k = f k := by simp [upd, h]
def objW (ws : List Wr) : Prop := ∀ x ∈ ws, ∃ id o, x = .obj id o
theorem appS_obj {S : Sl} : ∀ {ws : List Wr}, objW ws → appS S ws = S
 | [], _ => rfl
 | x :: ws, h => by
  obtain ⟨id, o, rfl⟩ := h x (by simp)
  rw [appS_cons]
  exact appS_obj fun y hy => h y (by simp [hy])

theorem find_eq (G : GS) (id : Nat) : G.find id = match G.st.get id with
 | some o => some o
 | none => match G.ca.get id with
  | some o => some (some o)
  | none => none := by
 unfold GS.find
 cases G.st.get id with
 | some o => rfl
 | none => cases G.ca.get id <;> rfl
noncomputable def GS.over (G : GS) (H : Hp) : Hp := fun id => match G.find id with
 | some o => o
 | none => H id
theorem over_keep {G : GS} {H : Hp} {id : Nat} {o : Ob} (h : H id = some o) (hf : G.find id = none) : (G.keep id o).over H = G.over H := by
 funext k
 unfold GS.over
 have e : (G.keep id o).find k = if k = id then some (some o) else G.find k := by
  rw [find_eq, find_eq]
  unfold GS.keep
  simp only [Tr.get_set]
  by_cases hk : k = id
  ·subst hk
   rw [find_eq] at hf
   simp only [if_true]
   split at hf
   ·cases hf
   ·rename_i hst
    simp [hst]
  ·simp [hk]
 rw [e]
 by_cases hk : k = id
 ·subst hk; simp [hf, h]
 ·simp [hk]
theorem over_put (G : GS) (H : Hp) (x : Wr) : (G.put x).over H = putH (G.over H) x ∧ (G.put x).slots.get = putS G.slots.get x ∧ (G.put x).next = G.next := by
 cases x with
 | slot n v =>
  refine ⟨rfl, ?_, rfl⟩
  funext k
  simp only [GS.put, Tr.get_set, putS, upd]
 | obj id o =>
  refine ⟨?_, rfl, rfl⟩
  funext k
  simp only [GS.over, find_eq, GS.put, Tr.get_set, putH, upd]
  by_cases hk : k = id <;> simp [hk]
theorem app_cons (G : GS) (x : Wr) (ws : List Wr) : G.app (x :: ws) = (G.put x).app ws := rfl
theorem over_app (H : Hp) : ∀ (ws : List Wr) (G : GS), (G.app ws).over H = appH (G.over H) ws ∧ (G.app ws).slots.get = appS G.slots.get ws ∧ (G.app ws).next = G.next
 | [], G => ⟨rfl, rfl, rfl⟩
 | x :: ws, G => by
  obtain ⟨h1, h2, h3⟩ := over_app H ws (G.put x)
  obtain ⟨q1, q2, q3⟩ := over_put G H x
  rw [app_cons, appH_cons, appS_cons, h1, h2, h3, q1, q2, q3]
  exact ⟨rfl, rfl, rfl⟩

theorem run_get {n : Nat} {k : HV → RT} {S : Sl} {H : Hp} {r : List Wr × Nat} (h : (RT.get n k).run S H = some r) : ∃ v, S n = some v ∧ (k v).run S H = some r := by
 simp only [RT.run] at h
 split at h
 ·exact ⟨_, by assumption, h⟩
 ·cases h
theorem run_obj {n : Nat} {k : Ob → RT} {S : Sl} {H : Hp} {r : List Wr × Nat} (h : (RT.obj n k).run S H = some r) : ∃ o, H n = some o ∧ (k o).run S H = some r := by
 simp only [RT.run] at h
 split at h
 ·exact ⟨_, by assumption, h⟩
 ·cases h
theorem run_fail {y : Nat} {S : Sl} {H : Hp} {r : List Wr × Nat} {p : Prop} (h : (RT.fail y).run S H = some r) : p := by simp [RT.run] at h
theorem run_fin {ws : List Wr} {nx : Nat} {S : Sl} {H : Hp} {r : List Wr × Nat} (h : (RT.fin ws nx).run S H = some r) : r = (ws, nx) := by simpa [RT.run] using h.symm
theorem run_optR {α : Type} {y : Nat} {o : Option α} {k : α → RT} {S : Sl} {H : Hp} {r : List Wr × Nat} (h : (optR y o k).run S H = some r) : ∃ x, o = some x ∧ (k x).run S H = some r := by
 cases o with
 | none => exact run_fail h
 | some x => exact ⟨x, rfl, h⟩
theorem run_bif {b : Bool} {x : RT} {y : Nat} {S : Sl} {H : Hp} {r : List Wr × Nat} (h : (bif b then x else .fail y).run S H = some r) : b = true ∧ x.run S H = some r := by
 cases b
 ·exact run_fail h
 ·exact ⟨rfl, h⟩

theorem inn_run {S0 : Sl} {H0 : Hp} {r : List Wr × Nat} : ∀ {rt : RT} {G : GS} {K : GS → RT}, (rt.inn G K).run S0 H0 = some r →
  ∃ ws nx G', rt.run G.slots.get (G.over H0) = some (ws, nx) ∧ G'.over H0 = appH (G.over H0) ws ∧ G'.slots.get = appS G.slots.get ws ∧ G'.next = nx ∧ G.next ≤ nx ∧ (K G').run S0 H0 = some r := by
 intro rt
 induction rt with
 | fail y => intro G K h; exact run_fail h
 | get n k ih =>
  intro G K h
  have h' : (@Option.rec HV (fun _ => RT) (.fail 101) (fun g => (k g).inn G K) (G.slots.get n)).run S0 H0 = some r := h
  cases hg : G.slots.get n with
  | none => rw [hg] at h'; exact run_fail h'
  | some v =>
   rw [hg] at h'
   obtain ⟨ws, nx, G', h1, h2⟩ := ih v h'
   exact ⟨ws, nx, G', by simp only [RT.run, hg]; exact h1, h2⟩
 | obj id k ih =>
  intro G K h
  have h' : (@Option.rec (Option Ob) (fun _ => RT) (.obj id fun o => (k o).inn (G.keep id o) K) (fun o => @Option.rec Ob (fun _ => RT) (.fail 102) (fun o => (k o).inn G K) o) (G.find id)).run S0 H0 = some r := h
  cases hg : G.find id with
  | none =>
   rw [hg] at h'
   obtain ⟨o, ho, h'⟩ := run_obj h'
   obtain ⟨ws, nx, G', h1, h2, h3, h4, h5, h6⟩ := ih o h'
   rw [over_keep ho hg] at h1 h2
   exact ⟨ws, nx, G', by simp only [RT.run, GS.over, hg, ho]; exact h1, h2, h3, h4, h5, h6⟩
  | some o =>
   rw [hg] at h'
   cases o with
   | none => exact run_fail h'
   | some o =>
    obtain ⟨ws, nx, G', h1, h2⟩ := ih o h'
    exact ⟨ws, nx, G', by simp only [RT.run, GS.over, hg]; exact h1, h2⟩
 | fin ws nx =>
  intro G K h
  have h' : (forceN nx fun nx => bt (Nat.ble G.next nx) (K { G.app ws with next := nx }) (.fail 103)).run S0 H0 = some r := h
  rw [forceN_eq] at h'
  cases hb : Nat.ble G.next nx with
  | false => rw [hb] at h'; exact run_fail h'
  | true =>
   rw [hb] at h'
   obtain ⟨q1, q2, q3⟩ := over_app H0 ws G
   exact ⟨ws, nx, { G.app ws with next := nx }, rfl, q1, q2, rfl, Nat.le_of_ble_eq_true hb, h'⟩

inductive All2 {α β : Type} (R : α → β → Prop) : List α → List β → Prop where
 | nil : All2 R [] []
 | cons {a : α} {b : β} {as : List α} {bs : List β} : R a b → All2 R as bs → All2 R (a :: as) (b :: bs)
theorem All2.mono {α β : Type} {R R' : α → β → Prop} (h : ∀ a b, R a b → R' a b) {as : List α} {bs : List β} (x : All2 R as bs) : All2 R' as bs := by
 induction x with
 | nil => exact .nil
 | cons h1 _ ih => exact .cons (h _ _ h1) ih
theorem All2.append {α β : Type} {R : α → β → Prop} {as as' : List α} {bs bs' : List β} (x : All2 R as bs) (y : All2 R as' bs') : All2 R (as ++ as') (bs ++ bs') := by
 induction x with
 | nil => exact y
 | cons h1 _ ih => exact .cons h1 ih
def EntR (ρ : En) (m : Mp) (p : HV × HV) (e : MapEntry) : Prop := den ρ m p.1 = some e.key ∧ den ρ m p.2 = some e.val
def OR (P : Program) (ρ : En) (m : Mp) (w : World) (id : Nat) : Ob → Prop
 | .cells el cs op => ∃ b s vs post, m id = some (b, s) ∧ denL ρ m cs = some vs ∧ cs.all HV.one = true ∧ w.heap[b]? = some (.cells (vs ++ post).toArray el (0, 0)) ∧ post.length = s * P.cellsOf el ∧ (op = false → s = 0) ∧ (s = 0 ∨ ∀ k, k * P.cellsOf el ≤ cs.length → k + s ≤ maxLen)
 | .ro el cs => ∃ b s vs post fr, m id = some (b, s) ∧ denL ρ m cs = some vs ∧ cs.all HV.one = true ∧ w.heap[b]? = some (.cells (vs ++ post).toArray el fr)
 | .hid el => ∃ b s arr, m id = some (b, s) ∧ w.heap[b]? = some (.cells arr el (0, 0)) ∧ 1 ≤ s % osB ∧ s % osB ≤ s / osB ∧ s / osB ≤ maxLen ∧ arr.size = (s / osB) * P.cellsOf el ∧ ∀ u ∈ arr.toList.take ((s % osB) * P.cellsOf el), u.oneCell' = true
 | .map ents => ∃ b s es clock, m id = some (b, s) ∧ w.heap[b]? = some (.map es clock) ∧ All2 (EntR ρ m) ents es.toList
def Ob.fixed : Ob → Bool
 | .ro .. => true
 | _ => false
def Wo (w w' : World) : Prop := w'.os = w.os ∧ w'.tape = w.tape ∧ w'.output = w.output
structure HRep (P : Program) (ρ : En) (H : Hp) (m : Mp) (w : World) : Prop where
 objs : ∀ id o, H id = some o → OR P ρ m w id o
 inj : ∀ i j o o' q q', i ≠ j → H i = some o → H j = some o' → m i = some q → m j = some q' → q.1 ≠ q'.1
 keep : Below ρ.base.heap.size ρ.base w
 off : ∀ i o q, H i = some o → o.fixed = false → m i = some q → ρ.base.heap.size ≤ q.1
structure Rep (P : Program) (ρ : En) (N : Nat) (S : Sl) (H : Hp) (m : Mp) (a : Act) (w : World) : Prop where
 heap : HRep P ρ H m w
 slots : ∀ k v, S k = some v → den ρ m v = some (a.tmps.getD k undef)
 defers : a.defers = []
 size : a.tmps.size = N

section
variable {P : Program} {ρ : En} {H : Hp} {m m' : Mp} {w w' : World} {id : Nat} {o : Ob}
theorem OR.block (h : OR P ρ m w id o) : ∃ q x, m id = some q ∧ w.heap[q.1]? = some x := by
 cases o with
 | cells el cs op => obtain ⟨b, s, vs, post, h1, _, _, h2, _⟩ := h; exact ⟨_, _, h1, h2⟩
 | ro el cs => obtain ⟨b, s, vs, post, fr, h1, _, _, h2⟩ := h; exact ⟨_, _, h1, h2⟩
 | map ents => obtain ⟨b, s, es, clock, h1, h2, _⟩ := h; exact ⟨_, _, h1, h2⟩
 | hid el => obtain ⟨b, s, arr, h1, h2, _⟩ := h; exact ⟨_, _, h1, h2⟩
theorem OR.rd (h : OR P ρ m w id o) {cs : List HV} (hc : o.rd = some cs) : ∃ b s vs post el fr, m id = some (b, s) ∧ denL ρ m cs = some vs ∧ cs.all HV.one = true ∧ w.heap[b]? = some (.cells (vs ++ post).toArray el fr) := by
 cases o with
 | cells el cs' op => cases hc; obtain ⟨b, s, vs, post, h1, h2, h3, h4, _⟩ := h; exact ⟨b, s, vs, post, el, _, h1, h2, h3, h4⟩
 | ro el cs' => cases hc; obtain ⟨b, s, vs, post, fr, h1, h2, h3, h4⟩ := h; exact ⟨b, s, vs, post, el, fr, h1, h2, h3, h4⟩
 | map ents => cases hc
 | hid el => cases hc
theorem OR.mono (h : OR P ρ m w id o) (hm : m.le m') (hw : ∀ q, m id = some q → w'.heap[q.1]? = w.heap[q.1]?) : OR P ρ m' w' id o := by
 cases o with
 | cells el cs op =>
  obtain ⟨b, s, vs, post, h1, h2, h3, h4, h5, h6⟩ := h
  exact ⟨b, s, vs, post, hm _ _ h1, denL_mono hm h2, h3, (hw _ h1).trans h4, h5, h6⟩
 | ro el cs =>
  obtain ⟨b, s, vs, post, fr, h1, h2, h3, h4⟩ := h
  exact ⟨b, s, vs, post, fr, hm _ _ h1, denL_mono hm h2, h3, (hw _ h1).trans h4⟩
 | map ents =>
  obtain ⟨b, s, es, clock, h1, h2, h3⟩ := h
  exact ⟨b, s, es, clock, hm _ _ h1, (hw _ h1).trans h2, h3.mono fun p e he => ⟨den_mono hm he.1, den_mono hm he.2⟩⟩
 | hid el =>
  obtain ⟨b, s, arr, h1, h2, h3⟩ := h
  exact ⟨b, s, arr, hm _ _ h1, (hw _ h1).trans h2, h3⟩
theorem HRep.lt (h : HRep P ρ H m w) (hi : H id = some o) {q : Nat × Nat} (hq : m id = some q) : q.1 < w.heap.size := by
 obtain ⟨q', x, h1, h2⟩ := (h.objs id o hi).block
 rw [hq] at h1; cases h1
 exact (Array.getElem?_eq_some_iff.1 h2).1
theorem size_of {w w' : World} (h : ∀ b, b < w.heap.size → w'.heap[b]? = w.heap[b]?) : w.heap.size ≤ w'.heap.size := by
 rcases Nat.eq_zero_or_pos w.heap.size with h0 | h0
 ·omega
 ·have h1 := h (w.heap.size - 1) (by omega)
  rw [Array.getElem?_eq_getElem (show w.heap.size - 1 < w.heap.size by omega)] at h1
  have := (Array.getElem?_eq_some_iff.1 h1).1
  omega
theorem below_on {B : World} {w w' : World} (h : Below B.heap.size B w) (hw : ∀ b, b < B.heap.size → w'.heap[b]? = w.heap[b]?) (hs : w.heap.size ≤ w'.heap.size) (hx : Wo w w') : Below B.heap.size B w' :=
 ⟨hx.1.trans h.os, hx.2.1.trans h.tape, hx.2.2.trans h.output, Nat.le_trans h.size hs, fun k hk => (hw k hk).trans (h.block k hk)⟩
theorem HRep.grow (h : HRep P ρ H m w) (hw : ∀ b, b < w.heap.size → w'.heap[b]? = w.heap[b]?) (hx : Wo w w') : HRep P ρ H m w' where
 objs i o hi := (h.objs i o hi).mono (Mp.le_refl m) fun q hq => hw _ (h.lt hi hq)
 inj := h.inj
 keep := below_on h.keep (fun b hb => hw b (Nat.lt_of_lt_of_le hb h.keep.size)) (size_of hw) hx
 off := h.off
def Mp.set (m : Mp) (id b s : Nat) : Mp := fun k => if k = id then some (b, s) else m k
theorem Mp.set_same (m : Mp) (id b s : Nat) : m.set id b s id = some (b, s) := by simp [Mp.set]
theorem Mp.le_set {m : Mp} {id b s : Nat} (h : m id = none) : m.le (m.set id b s) := fun k q hk => by
 have : k ≠ id := fun e => by subst e; rw [h] at hk; cases hk
 simp [Mp.set, this, hk]
theorem HRep.new (h : HRep P ρ H m w) (hn : m id = none) {b s : Nat} (hw : ∀ k, k < w.heap.size → w'.heap[k]? = w.heap[k]?) (hb : w.heap.size ≤ b) (ho : OR P ρ (m.set id b s) w' id o) (hx : Wo w w') : HRep P ρ (upd H id (some o)) (m.set id b s) w' where
 objs i o' hi := by
  by_cases e : i = id
  ·subst e; rw [upd_same] at hi; cases hi; exact ho
  ·rw [upd_ne _ _ e] at hi
   exact (h.objs i o' hi).mono (Mp.le_set hn) fun q hq => hw _ (h.lt hi hq)
 inj i j o1 o2 q q' hne hi hj hq hq' := by
  have at_ : ∀ k o' q, k ≠ id → upd H id (some o) k = some o' → m.set id b s k = some q → H k = some o' ∧ m k = some q := by
   intro k o' q e h1 h2
   rw [upd_ne _ _ e] at h1
   exact ⟨h1, by simpa [Mp.set, e] using h2⟩
  by_cases e1 : i = id
  ·have e2 : j ≠ id := fun e => hne (e1.trans e.symm)
   obtain ⟨h1, h2⟩ := at_ j o2 q' e2 hj hq'
   subst e1
   rw [Mp.set_same] at hq; cases hq
   have := h.lt h1 h2
   simp only; omega
  ·obtain ⟨h1, h2⟩ := at_ i o1 q e1 hi hq
   by_cases e2 : j = id
   ·subst e2
    rw [Mp.set_same] at hq'; cases hq'
    have := h.lt h1 h2
    simp only; omega
   ·obtain ⟨h3, h4⟩ := at_ j o2 q' e2 hj hq'
    exact h.inj i j o1 o2 q q' hne h1 h3 h2 h4
 keep := below_on h.keep (fun b hb => hw b (Nat.lt_of_lt_of_le hb h.keep.size)) (size_of hw) hx
 off i o1 q h1 h2 h3 := by
  by_cases e : i = id
  ·subst e
   rw [Mp.set_same] at h3; cases h3
   exact Nat.le_trans h.keep.size hb
  ·rw [upd_ne _ _ e] at h1
   exact h.off i o1 q h1 h2 (by simpa [Mp.set, e] using h3)
theorem HRep.kill (h : HRep P ρ H m w) (id : Nat) : HRep P ρ (upd H id none) m w where
 objs i o hi := by
  by_cases e : i = id
  ·subst e; rw [upd_same] at hi; cases hi
  ·rw [upd_ne _ _ e] at hi; exact h.objs i o hi
 inj i j o o' q q' hne hi hj hq hq' := by
  have at_ : ∀ k o', upd H id none k = some o' → H k = some o' := by
   intro k o' hk
   by_cases e : k = id
   ·subst e; rw [upd_same] at hk; cases hk
   ·rwa [upd_ne _ _ e] at hk
  exact h.inj i j o o' q q' hne (at_ i o hi) (at_ j o' hj) hq hq'
 keep := h.keep
 off i o q h1 h2 h3 := by
  by_cases e : i = id
  ·subst e; rw [upd_same] at h1; cases h1
  ·rw [upd_ne _ _ e] at h1; exact h.off i o q h1 h2 h3
theorem HRep.keep_write (h : HRep P ρ H m w) (hi : H id = some o) (hf : o.fixed = false) {b s : Nat} (hq : m id = some (b, s)) (hw : ∀ k, k ≠ b → w'.heap[k]? = w.heap[k]?) (hb' : ∃ x, w'.heap[b]? = some x) (hx : Wo w w') : Below ρ.base.heap.size ρ.base w' := by
 have hb : ρ.base.heap.size ≤ b := h.off id o _ hi hf hq
 refine below_on h.keep (fun k hk => hw k (by omega)) ?_ hx
 obtain ⟨x, h2⟩ := hb'
 have hlt := (Array.getElem?_eq_some_iff.1 h2).1
 rcases Nat.lt_or_ge b (w.heap.size - 1) with h0 | h0
 ·have h1 := hw (w.heap.size - 1) (by omega)
  rw [Array.getElem?_eq_getElem (show w.heap.size - 1 < w.heap.size by omega)] at h1
  have := (Array.getElem?_eq_some_iff.1 h1).1
  omega
 ·omega
theorem HRep.write (h : HRep P ρ H m w) {o' : Ob} (hi : H id = some o) {b s : Nat} (hq : m id = some (b, s)) (hw : ∀ k, k ≠ b → w'.heap[k]? = w.heap[k]?) (ho : OR P ρ m w' id o') (hx : Wo w w') (hf : o.fixed = false) : HRep P ρ (upd H id (some o')) m w' where
 objs i o1 h1 := by
  by_cases e : i = id
  ·subst e; rw [upd_same] at h1; cases h1; exact ho
  ·rw [upd_ne _ _ e] at h1
   refine (h.objs i o1 h1).mono (Mp.le_refl m) fun q hq' => hw _ ?_
   exact h.inj i id o1 o q (b, s) e h1 hi hq' hq
 inj i j o1 o2 q q' hne h1 h2 hq1 hq2 := by
  have at_ : ∀ k o1, upd H id (some o') k = some o1 → ∃ o2, H k = some o2 := by
   intro k o1 hk
   by_cases e : k = id
   ·subst e; exact ⟨o, hi⟩
   ·rw [upd_ne _ _ e] at hk; exact ⟨o1, hk⟩
  obtain ⟨x, hx⟩ := at_ i o1 h1
  obtain ⟨y, hy⟩ := at_ j o2 h2
  exact h.inj i j x y q q' hne hx hy hq1 hq2
 keep := by
  obtain ⟨q, x, h1, h2⟩ := ho.block
  rw [hq] at h1; cases h1
  exact h.keep_write hi hf hq hw ⟨x, h2⟩ hx
 off i o1 q h1 h2 h3 := by
  by_cases e : i = id
  ·subst e
   rw [hq] at h3; cases h3
   exact h.off i o _ hi hf hq
  ·rw [upd_ne _ _ e] at h1; exact h.off i o1 q h1 h2 h3
end
end Go.Proofs.YtehbbcdhahnkgaaGreat.Hm
