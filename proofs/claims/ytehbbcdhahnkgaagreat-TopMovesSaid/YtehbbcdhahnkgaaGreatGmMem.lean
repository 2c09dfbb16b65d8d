/- The ghost machine and the machine: parts of data. -/
import Derived.Test.YtehbbcdhahnkgaaGreatGmOp
set_option linter.unusedVariables false
set_option linter.unusedSimpArgs false
namespace Go.Proofs.YtehbbcdhahnkgaaGreat
open Go
section
variable {P : Program} {w : World} {Z : Nat → Prop}

theorem fld_some : ∀ {t : Ty} {x : t.den} {k : Nat} {d : Dt}, t.fld x k = some d → fldTy t k = some d.1
 | .pair a b, x, 0, d, h => by simp only [Ty.fld] at h; cases h; simp only [fldTy, viewD_ty]
 | .pair a b, x, k + 1, d, h => by simp only [Ty.fld] at h; exact fld_some (t := b) (k := k) h
 | .bool, _, _, _, h | .i64, _, _, _, h | .u8, _, _, _, h | .u16, _, _, _, h | .u32, _, _, _, h | .u64, _, _, _, h | .str, _, _, _, h | .unit, _, _, _, h | .sl _, _, _, _, h | .arr _ _, _, _, _, h | .trees, _, _, _, h => by simp [Ty.fld] at h
theorem fld_DR : ∀ {t : Ty} {x : t.den} {k : Nat} {d : Dt} {vs : List Value}, DR w Z t x vs → t.fld x k = some d → ∃ us, DR w Z d.1 d.2 us ∧ (∀ j u, us[j]? = some u → vs[fldOff t k + j]? = some u) ∧ fldOff t k + us.length ≤ vs.length
 | .pair a b, x, 0, d, vs, h, hd => by
  simp only [Ty.fld] at hd; cases hd
  obtain ⟨us, rs, rfl, h1, h2⟩ := h
  refine ⟨us, viewD_DR.2 h1, fun j u hu => ?_, by simp [fldOff]⟩
  have hj : j < us.length := (List.getElem?_eq_some_iff.1 hu).1
  simp only [fldOff, Nat.zero_add]
  rw [List.getElem?_append_left hj]; exact hu
 | .pair a b, x, k + 1, d, vs, h, hd => by
  simp only [Ty.fld] at hd
  obtain ⟨us, rs, rfl, h1, h2⟩ := h
  obtain ⟨us', h3, h4, h5⟩ := fld_DR (t := b) (k := k) h2 hd
  refine ⟨us', h3, fun j u hu => ?_, by simp only [fldOff, List.length_append]; have := h1.len; omega⟩
  simp only [fldOff]
  rw [List.getElem?_append_right (by have := h1.len; omega), ← h4 j u hu]
  congr 1; have := h1.len; omega
 | .bool, _, _, _, _, _, h | .i64, _, _, _, _, _, h | .u8, _, _, _, _, _, h | .u16, _, _, _, _, _, h | .u32, _, _, _, _, _, h | .u64, _, _, _, _, _, h | .str, _, _, _, _, _, h | .unit, _, _, _, _, _, h | .sl _, _, _, _, _, _, h | .arr _ _, _, _, _, _, _, h | .trees, _, _, _, _, _, h => by simp [Ty.fld] at h

def repl (vs us : List Value) (o : Nat) : List Value := vs.take o ++ us ++ vs.drop (o + us.length)
theorem repl_append_left {us rs vs : List Value} {o : Nat} (h : o + vs.length ≤ us.length) : repl (us ++ rs) vs o = repl us vs o ++ rs := by
 unfold repl
 rw [List.take_append_of_le_length (by omega), List.drop_append_of_le_length h, List.append_assoc, List.append_assoc, List.append_assoc]
theorem repl_append_right {us rs vs : List Value} {o : Nat} : repl (us ++ rs) vs (us.length + o) = us ++ repl rs vs o := by
 unfold repl
 rw [List.take_length_add_append, Nat.add_assoc, List.drop_length_add_append]
 simp
theorem repl_all {us vs : List Value} (h : vs.length = us.length) : repl us vs 0 = vs := by
 unfold repl; simp [h]
theorem repl_len {us vs : List Value} {o : Nat} (h : o + vs.length ≤ us.length) : (repl us vs o).length = us.length := by
 unfold repl; simp only [List.length_append, List.length_take, List.length_drop]; omega
theorem repl_get {vs us : List Value} {o : Nat} (h : o + us.length ≤ vs.length) (j : Nat) : (repl vs us o)[j]? = if j < o then vs[j]? else if j < o + us.length then us[j - o]? else vs[j]? := by
 unfold repl
 simp only [List.getElem?_append, List.length_append, List.length_take, List.getElem?_take, List.getElem?_drop]
 have hm : min o vs.length = o := by omega
 simp only [hm]
 by_cases c1 : j < o
 ·simp [c1, show j < o + us.length by omega]
 ·by_cases c2 : j < o + us.length
  ·simp [c1, c2]
  ·simp [c1, c2, show o + us.length + (j - (o + us.length)) = j by omega]
theorem repl_set {vs us : List Value} {o k : Nat} {u : Value} (h : k < o ∨ o + us.length ≤ k) (hl : o + us.length ≤ vs.length) : repl (vs.set k u) us o = (repl vs us o).set k u := by
 apply List.ext_getElem?
 intro j
 rw [repl_get (by rw [List.length_set]; exact hl)]
 by_cases e : k = j
 ·subst e
  rw [List.getElem?_set_self', List.getElem?_set_self', repl_get hl]
  rcases h with h | h
  ·rw [if_pos h, if_pos h]
  ·rw [if_neg (by omega), if_neg (by omega), if_neg (by omega), if_neg (by omega)]
 ·rw [List.getElem?_set_ne e, List.getElem?_set_ne e, repl_get hl]
theorem repl_single {vs : List Value} {k : Nat} {u : Value} (h : k < vs.length) : repl vs [u] k = vs.set k u := by
 apply List.ext_getElem?
 intro j
 rw [repl_get (by simp only [List.length_cons, List.length_nil]; omega)]
 by_cases e : k = j
 ·subst e
  rw [List.getElem?_set_self h, if_neg (by omega), if_pos (by simp)]
  simp
 ·rw [List.getElem?_set_ne e]
  by_cases c : j < k
  ·rw [if_pos c]
  ·rw [if_neg c, if_neg (by simp; omega)]
theorem set_same {us : List Value} {o : Nat} {u : Value} (h : us[o]? = some u) : us.set o u = us := by
 apply List.ext_getElem?
 intro j
 by_cases e : o = j
 ·subst e
  rw [List.getElem?_set_self (List.getElem?_eq_some_iff.1 h).1, h]
 ·rw [List.getElem?_set_ne e]
theorem fld_apart : ∀ {T : Ty} {f f' : Nat} {u u' : Ty}, fldTy T f = some u → fldTy T f' = some u' → f ≠ f' → fldOff T f + u.size ≤ fldOff T f' ∨ fldOff T f' + u'.size ≤ fldOff T f
 | .pair a b, 0, 0, _, _, _, _, h => absurd rfl h
 | .pair a b, 0, k + 1, u, u', h1, h2, _ => .inl (by simp only [fldTy] at h1; cases h1; simp only [fldOff, view_size]; omega)
 | .pair a b, k + 1, 0, u, u', h1, h2, _ => .inr (by simp only [fldTy] at h2; cases h2; simp only [fldOff, view_size]; omega)
 | .pair a b, k + 1, l + 1, u, u', h1, h2, hne => by
  simp only [fldTy] at h1 h2
  have := fld_apart h1 h2 (by omega)
  simp only [fldOff]
  omega
 | .bool, _, _, _, _, h, _, _ | .i64, _, _, _, _, h, _, _ | .u8, _, _, _, _, h, _, _ | .u16, _, _, _, _, h, _, _ | .u32, _, _, _, _, h, _, _ | .u64, _, _, _, _, h, _, _ | .str, _, _, _, _, h, _, _ | .unit, _, _, _, _, h, _, _ | .sl _, _, _, _, _, h, _, _ | .arr _ _, _, _, _, _, h, _, _ | .trees, _, _, _, _, h, _, _ => by simp [fldTy] at h

theorem cast_DR {t' t : Ty} {x : t'.den} {y : t.den} {us : List Value} (hc : tcast t' t x = some y) (h : DR w Z t' x us) : DR w Z t y us ∧ t' = t := by
 obtain ⟨he, hz⟩ := tcast_some hc
 subst he
 subst hz
 exact ⟨h, rfl⟩
theorem putD_DR : ∀ {t : Ty} {d : Dt} {z : t.den} {us : List Value}, putD t d = some z → DR w Z d.1 d.2 us → DR w Z t z us ∧ viewTy t = d.1 := by
 intro t d z us hc h
 cases t with
 | trees =>
  obtain ⟨l, h1, h2⟩ := Option.map_eq_some_iff.1 (show (tcast d.1 (.sl TT) d.2).map (fun l => List.map mkT l) = some z from hc)
  subst h2
  obtain ⟨q1, q2⟩ := cast_DR h1 h
  refine ⟨trees_DR.2 ?_, q2.symm⟩
  rw [un_mkT]
  exact q1
 | bool => obtain ⟨q1, q2⟩ := cast_DR (t := .bool) hc h; exact ⟨q1, q2.symm⟩
 | i64 => obtain ⟨q1, q2⟩ := cast_DR (t := .i64) hc h; exact ⟨q1, q2.symm⟩
 | u8 => obtain ⟨q1, q2⟩ := cast_DR (t := .u8) hc h; exact ⟨q1, q2.symm⟩
 | u16 => obtain ⟨q1, q2⟩ := cast_DR (t := .u16) hc h; exact ⟨q1, q2.symm⟩
 | u32 => obtain ⟨q1, q2⟩ := cast_DR (t := .u32) hc h; exact ⟨q1, q2.symm⟩
 | u64 => obtain ⟨q1, q2⟩ := cast_DR (t := .u64) hc h; exact ⟨q1, q2.symm⟩
 | str => obtain ⟨q1, q2⟩ := cast_DR (t := .str) hc h; exact ⟨q1, q2.symm⟩
 | unit => obtain ⟨q1, q2⟩ := cast_DR (t := .unit) hc h; exact ⟨q1, q2.symm⟩
 | sl t => obtain ⟨q1, q2⟩ := cast_DR (t := .sl t) hc h; exact ⟨q1, q2.symm⟩
 | arr n t => obtain ⟨q1, q2⟩ := cast_DR (t := .arr n t) hc h; exact ⟨q1, q2.symm⟩
 | pair a b => obtain ⟨q1, q2⟩ := cast_DR (t := .pair a b) hc h; exact ⟨q1, q2.symm⟩
theorem setFld_DR : ∀ {t : Ty} {x x' : t.den} {k : Nat} {d : Dt} {vs us : List Value}, DR w Z t x vs → t.setFld x k d = some x' → DR w Z d.1 d.2 us → DR w Z t x' (repl vs us (fldOff t k)) ∧ fldTy t k = some d.1 ∧ fldOff t k + us.length ≤ vs.length
 | .pair a b, x, x', 0, d, vs, us, h, hd, hu => by
  simp only [Ty.setFld] at hd
  cases hc : putD a d with
  | none => rw [hc] at hd; simp at hd
  | some z =>
   rw [hc] at hd; simp at hd; subst hd
   obtain ⟨q1, q2⟩ := putD_DR hc hu
   obtain ⟨us0, rs, rfl, h1, h2⟩ := h
   have hl : us.length = us0.length := by rw [q1.len, h1.len]
   refine ⟨⟨us, rs, ?_, q1, h2⟩, by simp only [fldTy, q2], by simp only [fldOff, List.length_append]; omega⟩
   simp only [fldOff]
   rw [repl_append_left (by omega), repl_all hl]
 | .pair a b, x, x', k + 1, d, vs, us, h, hd, hu => by
  simp only [Ty.setFld] at hd
  cases hc : b.setFld x.2 k d with
  | none => rw [hc] at hd; simp at hd
  | some z =>
   rw [hc] at hd; simp at hd; subst hd
   obtain ⟨us0, rs, rfl, h1, h2⟩ := h
   obtain ⟨h3, h4, h5⟩ := setFld_DR (t := b) (k := k) h2 hc hu
   refine ⟨⟨us0, repl rs us (fldOff b k), ?_, h1, h3⟩, h4, by simp only [fldOff, List.length_append]; have := h1.len; omega⟩
   simp only [fldOff]
   rw [← h1.len, repl_append_right]
 | .bool, _, _, _, _, _, _, _, h, _ | .i64, _, _, _, _, _, _, _, h, _ | .u8, _, _, _, _, _, _, _, h, _ | .u16, _, _, _, _, _, _, _, h, _ | .u32, _, _, _, _, _, _, _, h, _ | .u64, _, _, _, _, _, _, _, h, _ | .str, _, _, _, _, _, _, _, h, _ | .unit, _, _, _, _, _, _, _, h, _ | .sl _, _, _, _, _, _, _, _, h, _ | .arr _ _, _, _, _, _, _, _, _, h, _ | .trees, _, _, _, _, _, _, _, h, _ => by simp [Ty.setFld] at h

theorem elem_DR {t : Ty} {xs : List t.den} {uss : List (List Value)} (h : All2 (DR w Z t) xs uss) {i : Nat} (hi : i < xs.length) (d : t.den) :
  ∃ us, DR w Z t (xs.getD i d) us ∧ (∀ j u, us[j]? = some u → uss.flatten[i * t.size + j]? = some u) ∧ i * t.size + us.length ≤ uss.flatten.length ∧ uss[i]? = some us := by
 obtain ⟨us, h1, h2⟩ := All2.get i xs[i] h (by simp [hi])
 refine ⟨us, by simpa [List.getD, List.getElem?_eq_getElem hi] using h2, fun j u hu => ?_, ?_, h1⟩
 ·rw [flatten_at h.lenD i j us h1 (by have := (List.getElem?_eq_some_iff.1 hu).1; rw [h2.len] at this; exact this)]; exact hu
 ·rw [h.flatD, h2.len]
  calc i * t.size + t.size = (i + 1) * t.size := by rw [Nat.add_mul, Nat.one_mul]
   _ ≤ xs.length * t.size := Nat.mul_le_mul_right _ hi
theorem set_flatten {uss : List (List Value)} {k : Nat} (h : ∀ v ∈ uss, v.length = k) : ∀ {i : Nat} {us : List Value}, i < uss.length → us.length = k → (uss.set i us).flatten = repl uss.flatten us (i * k) := by
 induction uss with
 | nil => intro i us hi; simp at hi
 | cons v l ih =>
  intro i us hi hu
  have hv := h v (by simp)
  cases i with
  | zero => simp only [List.set_cons_zero, List.flatten_cons, Nat.zero_mul]; rw [repl_append_left (by omega), repl_all (by omega)]
  | succ i =>
   simp only [List.set_cons_succ, List.flatten_cons]
   rw [ih (fun u hu => h u (by simp [hu])) (by simpa using hi) hu, show (i + 1) * k = v.length + i * k by rw [Nat.add_mul, Nat.one_mul]; omega, repl_append_right]

theorem getP_DR : ∀ {p : List PS} {T : Ty} {x : T.den} {d : Dt} {vs : List Value}, pval p T → DR w Z T x vs → getP p T x = some d → ∃ us, DR w Z d.1 d.2 us ∧ (∀ j u, us[j]? = some u → vs[poff p T + j]? = some u) ∧ poff p T + us.length ≤ vs.length
 | [], T, x, d, vs, _, h, hd => by simp only [getP] at hd; cases hd; exact ⟨vs, h, fun j u hu => by simpa [poff] using hu, by simp [poff]⟩
 | .fld k :: p, T, x, d, vs, hp, h, hd => by
  simp only [getP] at hd
  cases hf : T.fld x k with
  | none => rw [hf] at hd; cases hd
  | some y =>
   rw [hf] at hd
   simp only at hd
   obtain ⟨u, hu, hp'⟩ := hp
   have hy := fld_some hf
   rw [hu] at hy; cases hy
   obtain ⟨us, h1, h2, h3⟩ := fld_DR h hf
   obtain ⟨us', h4, h5, h6⟩ := getP_DR (p := p) hp' h1 hd
   refine ⟨us', h4, fun j u' hu' => ?_, ?_⟩
   ·simp only [poff, hu]
    rw [Nat.add_assoc]; exact h2 _ _ (h5 j u' hu')
   ·simp only [poff, hu]; omega
 | .idx i :: p, .arr n t, x, d, vs, hp, h, hd => by
  simp only [getP] at hd
  obtain ⟨hi, hp'⟩ := hp
  obtain ⟨hl, uss, rfl, ha⟩ := h
  obtain ⟨us, h1, h2, h3, _⟩ := elem_DR ha (show i < List.length x by omega) t.zero
  obtain ⟨us', h4, h5, h6⟩ := getP_DR (p := p) hp' h1 hd
  refine ⟨us', h4, fun j u' hu' => ?_, ?_⟩
  ·simp only [poff]
   rw [Nat.add_assoc]; exact h2 _ _ (h5 j u' hu')
  ·simp only [poff]; omega
 | .idx i :: p, .sl t, _, _, _, hp, _, _ => hp.elim
 | .idx i :: p, .pair _ _, _, _, _, hp, _, _ | .idx i :: p, .bool, _, _, _, hp, _, _ | .idx i :: p, .i64, _, _, _, hp, _, _ | .idx i :: p, .u8, _, _, _, hp, _, _ | .idx i :: p, .u16, _, _, _, hp, _, _ | .idx i :: p, .u32, _, _, _, hp, _, _ | .idx i :: p, .u64, _, _, _, hp, _, _ | .idx i :: p, .str, _, _, _, hp, _, _ | .idx i :: p, .trees, _, _, _, hp, _, _ | .idx i :: p, .unit, _, _, _, hp, _, _ => hp.elim

theorem repl_repl {vs us ws : List Value} {o q : Nat} (h1 : o + us.length ≤ vs.length) (h2 : q + ws.length ≤ us.length) (h3 : ∀ j u, us[j]? = some u → vs[o + j]? = some u) : repl vs (repl us ws q) o = repl vs ws (o + q) := by
 have e : us = (vs.drop o).take us.length := by
  apply List.ext_getElem?
  intro j
  rcases Nat.lt_or_ge j us.length with hj | hj
  ·rw [List.getElem?_take_of_lt hj, List.getElem?_drop, h3 j us[j] (by simp [hj])]; simp [hj]
  ·rw [List.getElem?_eq_none hj, List.getElem?_eq_none (by simp; omega)]
 apply List.ext_getElem?
 intro j
 have hl : (repl us ws q).length = us.length := repl_len h2
 unfold repl at hl ⊢
 simp only [List.getElem?_append, List.length_append, List.length_take, List.length_drop, List.getElem?_take, List.getElem?_drop] at *
 have hm1 : min o vs.length = o := by omega
 have hm2 : min q us.length = q := by omega
 have hm3 : min (o + q) vs.length = o + q := by omega
 simp only [hm1, hm2, hm3]
 by_cases c1 : j < o
 ·simp [c1, show j < o + q + ws.length by omega, show j < o + q by omega, show j < o + (q + ws.length + (us.length - (q + ws.length))) by omega]
 ·by_cases c2 : j - o < q
  ·have : us[j - o]? = vs[j]? := by
    rw [← Nat.add_sub_cancel' (Nat.le_of_not_lt c1)]
    have hj : j - o < us.length := by omega
    rw [h3 (j - o) us[j - o] (by simp [hj])]; simp [hj]
   simp [c1, c2, show j < o + (q + ws.length + (us.length - (q + ws.length))) by omega, show j - o < q + ws.length by omega, show j < o + q + ws.length by omega, show j < o + q by omega, this]
  ·by_cases c3 : j - o < q + ws.length
   ·simp [c1, c2, c3, show j < o + (q + ws.length + (us.length - (q + ws.length))) by omega, show j < o + q + ws.length by omega, show ¬ j < o + q by omega, show j - o - q = j - (o + q) by omega]
   ·by_cases c4 : j - o < us.length
    ·have : us[q + ws.length + (j - o - (q + ws.length))]? = vs[o + q + ws.length + (j - (o + q + ws.length))]? := by
      rw [show q + ws.length + (j - o - (q + ws.length)) = j - o by omega, show o + q + ws.length + (j - (o + q + ws.length)) = o + (j - o) by omega]
      rw [h3 (j - o) us[j - o] (by simp [c4])]; simp [c4]
     simp [c1, c2, c3, show j < o + (q + ws.length + (us.length - (q + ws.length))) by omega, show ¬ j < o + q + ws.length by omega, this]
    ·have e1 : o + (q + ws.length + (us.length - (q + ws.length))) + (j - (o + (q + ws.length + (us.length - (q + ws.length))))) = o + q + ws.length + (j - (o + q + ws.length)) := by omega
     simp [c1, c2, c3, show ¬ j < o + (q + ws.length + (us.length - (q + ws.length))) by omega, show ¬ j < o + q + ws.length by omega, e1]

theorem setP_DR : ∀ {p : List PS} {T : Ty} {x x' : T.den} {d : Dt} {vs us : List Value}, pval p T → DR w Z T x vs → setP p T x d = some x' → DR w Z d.1 d.2 us → DR w Z T x' (repl vs us (poff p T)) ∧ poff p T + us.length ≤ vs.length
 | [], T, x, x', d, vs, us, _, h, hd, hu => by
  simp only [setP] at hd
  obtain ⟨d1, d2⟩ := d
  obtain ⟨he, hz⟩ := tcast_some hd
  subst he
  simp only at hz
  subst hz
  have hl : us.length = vs.length := by rw [hu.len, h.len]
  simp only [poff]
  rw [repl_all hl]
  exact ⟨hu, by omega⟩
 | .fld k :: p, T, x, x', d, vs, us, hp, h, hd, hu => by
  simp only [setP] at hd
  cases hf : T.fld x k with
  | none => rw [hf] at hd; cases hd
  | some y =>
   rw [hf] at hd
   simp only at hd
   cases hs : setP p y.1 y.2 d with
   | none => rw [hs] at hd; cases hd
   | some z =>
    rw [hs] at hd
    simp only at hd
    obtain ⟨u, hu', hp'⟩ := hp
    have hy := fld_some hf
    rw [hu'] at hy; cases hy
    obtain ⟨us0, h1, h2, h3⟩ := fld_DR h hf
    obtain ⟨h4, h5⟩ := setP_DR (p := p) hp' h1 hs hu
    obtain ⟨h6, h7, h8⟩ := setFld_DR (d := ⟨y.1, z⟩) h hd h4
    simp only [poff, hu']
    rw [repl_repl h3 h5 h2] at h6
    exact ⟨h6, by omega⟩
 | .idx i :: p, .arr n t, x, x', d, vs, us, hp, h, hd, hu => by
  simp only [setP] at hd
  obtain ⟨hi, hp'⟩ := hp
  obtain ⟨hl, uss, rfl, ha⟩ := h
  cases hs : setP p t (x.getD i t.zero) d with
  | none => rw [hs] at hd; simp at hd
  | some z =>
   rw [hs] at hd; simp at hd; subst hd
   obtain ⟨us0, h1, h2, h3, h3'⟩ := elem_DR ha (show i < List.length x by omega) t.zero
   obtain ⟨h4, h5⟩ := setP_DR (p := p) hp' h1 hs hu
   have hl0 : (repl us0 us (poff p t)).length = t.size := by rw [repl_len h5, h1.len]
   have hi' : i < uss.length := (List.getElem?_eq_some_iff.1 h3').1
   have hset := set_flatten ha.lenD hi' hl0
   simp only [poff]
   rw [← repl_repl h3 h5 h2]
   refine ⟨⟨by simpa using hl, uss.set i (repl us0 us (poff p t)), hset.symm, ha.set h4 i⟩, by omega⟩
 | .idx i :: p, .sl t, _, _, _, _, _, hp, _, _, _ => hp.elim
 | .idx i :: p, .pair _ _, _, _, _, _, _, hp, _, _, _ | .idx i :: p, .bool, _, _, _, _, _, hp, _, _, _ | .idx i :: p, .i64, _, _, _, _, _, hp, _, _, _ | .idx i :: p, .u8, _, _, _, _, _, hp, _, _, _ | .idx i :: p, .u16, _, _, _, _, _, hp, _, _, _ | .idx i :: p, .u32, _, _, _, _, _, hp, _, _, _ | .idx i :: p, .u64, _, _, _, _, _, hp, _, _, _ | .idx i :: p, .str, _, _, _, _, _, hp, _, _, _ | .idx i :: p, .trees, _, _, _, _, _, hp, _, _, _ | .idx i :: p, .unit, _, _, _, _, _, hp, _, _, _ => hp.elim
end
end Go.Proofs.YtehbbcdhahnkgaaGreat
