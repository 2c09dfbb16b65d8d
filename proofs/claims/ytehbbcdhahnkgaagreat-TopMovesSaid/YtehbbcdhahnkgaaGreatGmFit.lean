/- The ghost machine and the machine: a state read as one of a kind. -/
import Derived.Test.YtehbbcdhahnkgaaGreatGmOpF
set_option linter.unusedVariables false
set_option linter.unusedSimpArgs false
namespace Go.Proofs.YtehbbcdhahnkgaaGreat
open Go
section
variable {E : Env} {N : Nat} {U : Nat → Prop} {ob : Nat → Value} {Z : Nat → Prop} {s : GS} {a : Act} {w : World}

def obOf (ob : Nat → Value) (ρ : List (Option Nat)) (k : Nat) : Value := match ρ[k]? with
 | some (some i) => ob i
 | _ => .slice none 0 0
def Lz (ob : Nat → Value) (Z : Nat → Prop) (lent : List Nat) : Nat → Prop := fun b => Z b ∨ ∃ i, i ∈ lent ∧ blk (ob i) = some b
theorem Lz.mono {l l' : List Nat} (h : ∀ i, i ∈ l → i ∈ l') : ∀ b, Lz ob Z l b → Lz ob Z l' b := fun b hb => hb.imp id fun ⟨i, h1, h2⟩ => ⟨i, h i h1, h2⟩

theorem asData_ok {objs : List (Nat × Ob)} (h : RepAt E N U ob Z s a w) (ho : ∀ i o, look i objs = some o → look i s.objs = some o) {t : Ty} {v : SV} {x : t.den} {u : Value} (hv : SR w Z ob v u) (hd : asData objs t v = some x) {l : List Nat} (hl : ∀ i, i ∈ lentBy objs v → i ∈ l) :
  ∃ vs, DR w (Lz ob Z l) t x vs ∧ u = pk t vs := by
 unfold asData at hd
 split at hd
 ·obtain ⟨hte, hy⟩ := tcast_some hd
  subst hte
  simp only at hy; subst hy
  obtain ⟨vs, h1, h2⟩ := hv
  exact ⟨vs, h1.mono (Same.refl _ _) (fun _ h => .inl h), h2⟩
 ·split at hd
  ·cases hd
   exact ⟨[.slice none 0 0], ⟨none, 0, rfl, by simp, by simp [maxLen], fun hp => absurd hp (by simp)⟩, hv⟩
  ·cases hd
 ·rename_i i
  split at hd
  ·rename_i hlo
   obtain ⟨hte, hy⟩ := tcast_some hd
   subst hte
   simp only at hy; subst hy
   refine ⟨[ob i], row_DR (h.objs _ _ (ho _ _ hlo)).2.1 (fun _ h => .inl h) (fun b hb => .inr ⟨i, hl i (by simp [lentBy]), hb⟩), ?_⟩
   rw [pk_one rfl]; exact hv
  ·cases hd
 ·rename_i i u lo hi
  split at hd
  ·rename_i hlo
   split at hd
   ·rename_i ys hys
    obtain ⟨hte, hy⟩ := tcast_some hd
    subst hte
    simp only at hy; subst hy
    obtain ⟨hte, hy⟩ := tcast_some hys
    cases hte
    simp only at hy; subst hy
    have hd0 := row_DR (h.objs _ _ (ho _ _ hlo)).2.1 (Z' := Lz ob Z l) (fun _ h => .inl h) (fun b hb => .inr ⟨i, hl i (by simp [lentBy]), hb⟩)
    exact ⟨_, hv _ _ _ hd0, by rw [pk_one rfl]⟩
   ·cases hd
  ·cases hd
 ·cases hd

theorem asFp_ok {objs : List (Nat × Ob)} (h : RepAt E N U ob Z s a w) (ho : ∀ i o, look i objs = some o → look i s.objs = some o) {t : Ty} {v : SV} {x : t.den} {u : Value} (hv : SR w Z ob v u) (hd : asFp objs t v = some x) {l : List Nat} (hl : ∀ i, i ∈ lentBy objs v → i ∈ l) (ob' : Nat → Value) :
  SR w (Lz ob Z l) ob' (.fp t x) u := by
 unfold asFp at hd
 split at hd
 ·obtain ⟨hte, hy⟩ := tcast_some hd
  subst hte
  simp only at hy; subst hy
  obtain ⟨b, o, vs, h1, h2, h3, h4, h5⟩ := hv
  exact ⟨b, o, vs, h1, .inl h2, h3, h4.mono (Same.refl _ _) (fun _ h => .inl h), h5⟩
 ·rename_i i T p
  split at hd
  ·rename_i hlo
   split at hd
   ·rename_i z hc
    obtain ⟨hte, hy⟩ := tcast_some hc
    subst hte
    simp only at hy; subst hy
    split at hd
    ·rename_i y hg
     obtain ⟨y1, y2⟩ := y
     obtain ⟨hte, hy⟩ := tcast_some hd
     simp only at hte
     subst hte
     simp only at hy; subst hy
     obtain ⟨g, us, vs, h1, h2, h3, h4, _, h6, _⟩ := box_part (h.objs _ _ (ho _ _ hlo)).2.1 hv hg
     have hi : i ∈ l := hl i (by simp only [lentBy]; split <;> simp)
     exact ⟨g, _, us, h1, .inr ⟨i, hi, h2⟩, (Array.getElem?_eq_some_iff.1 h6).1, h3.mono (Same.refl _ _) (fun _ h => .inl h), h4⟩
    ·cases hd
   ·cases hd
  ·rename_i hlo
   split at hd
   ·rename_i z hc
    obtain ⟨hte, hy⟩ := tcast_some hc
    subst hte
    simp only at hy; subst hy
    split at hd
    ·rename_i y hg
     obtain ⟨y1, y2⟩ := y
     obtain ⟨hte, hy⟩ := tcast_some hd
     simp only at hte
     subst hte
     simp only at hy; subst hy
     obtain ⟨g, us, uss, cap, cur, k, q, h1, h2, h3, h4, _, _, h6, _⟩ := row_part (h.objs _ _ (ho _ _ hlo)).2.1 hv hg
     have hi : i ∈ l := hl i (by simp only [lentBy]; split <;> simp)
     exact ⟨g, _, us, h1, .inr ⟨i, hi, h2⟩, (Array.getElem?_eq_some_iff.1 h6).1, h3.mono (Same.refl _ _) (fun _ h => .inl h), h4⟩
    ·cases hd
   ·cases hd
  ·rename_i e v' hlo
   split at hd
   ·obtain ⟨g, u', h1, h2, h3, h4⟩ := (h.objs _ _ (ho _ _ hlo)).2.1
    obtain ⟨g', h5, h6, h7⟩ := hv
    rw [h1] at h5; cases h5
    have hl' : ∀ j, j ∈ lentBy objs v' → j ∈ l := fun j hj => hl j (by
     simp only [lentBy, hlo]
     cases v' <;> simp [lentBy] at hj ⊢
     ·exact .inr hj
     ·simp [asData] at hd
     ·exact .inr hj)
    obtain ⟨vs, h8, h9⟩ := asData_ok h ho h2 hd hl'
    have hi : i ∈ l := hl i (by simp only [lentBy]; split <;> simp)
    have hag : t.isAgg = false := by
     cases hq : t.isAgg with
     | false => rfl
     | true => rw [pk_agg hq] at h9; subst h9; simp [Value.oneCell'] at h4
    obtain ⟨y, rfl⟩ := h8.single hag
    rw [pk_one hag] at h9
    subst h9
    refine ⟨g, 0, [u'], by rw [h6]; simp [poff], .inr ⟨i, hi, by rw [h1]; rfl⟩, (Array.getElem?_eq_some_iff.1 h3).1, h8, fun j u2 hu2 => ?_⟩
    rw [cell_of_row w g _ _ e (0, 0) h3]
    simpa using hu2
   ·cases hd
  ·cases hd
 ·cases hd

theorem isAt_ok {ρ : List (Option Nat)} {k i : Nat} (h : isAt ρ k i = true) : ρ[k]? = some (some i) := by
 unfold isAt at h
 split at h
 ·rename_i j hj; rw [hj, Nat.eq_of_beq_eq_true h]
 ·cases h
theorem rowAt_ok {ρ : List (Option Nat)} {k : Nat} {v : SV} {u : Value} {w' : World} {Z' : Nat → Prop} (h : rowAt ρ k v = true) (hv : SR w Z ob v u) : SR w' Z' (obOf ob ρ) (.row k) u ∧ k < ρ.length := by
 unfold rowAt at h
 split at h
 ·have := isAt_ok h
  exact ⟨by show u = obOf ob ρ k; simp only [obOf, this]; exact hv, (List.getElem?_eq_some_iff.1 this).1⟩
 ·split at h
  ·rename_i hr
   exact ⟨by show u = obOf ob ρ k; simp only [obOf, hr]; exact hv, (List.getElem?_eq_some_iff.1 hr).1⟩
  ·cases h
 ·cases h
theorem refAt_ok {ρ : List (Option Nat)} {k : Nat} {T : Ty} {v : SV} {u : Value} {w' : World} {Z' : Nat → Prop} (h : refAt ρ k T v = true) (hv : SR w Z ob v u) : SR w' Z' (obOf ob ρ) (.ref k T []) u ∧ k < ρ.length := by
 unfold refAt at h
 split at h
 ·simp only [Bool.and_eq_true] at h
  have h1 := isAt_ok h.1
  have h2 := Ty.same_eq h.2
  subst h2
  obtain ⟨g, q1, q2, q3⟩ := hv
  refine ⟨⟨g, ?_, q2, ?_⟩, (List.getElem?_eq_some_iff.1 h1).1⟩
  ·simp only [obOf, h1]; exact q1
  ·simp only [obOf, h1]; exact q3
 ·cases h
theorem cloAt_ok {ρ : List (Option Nat)} {w' : World} {Z' : Nat → Prop} : ∀ {cs : List (Nat × Ty)} {vs : List SV} {us : List Value}, cloAt ρ cs vs = true → All2 (SR w Z ob) vs us → All2 (SR w' Z' (obOf ob ρ)) (cs.map fun c => .ref c.1 c.2 []) us ∧ ∀ c ∈ cs, c.1 < ρ.length
 | [], [], [], _, _ => ⟨trivial, by simp⟩
 | c :: cs, v :: vs, u :: us, h, ⟨h1, h2⟩ => by
  simp only [cloAt, Bool.and_eq_true] at h
  obtain ⟨q1, q2⟩ := refAt_ok (w' := w') (Z' := Z') h.1 h1
  obtain ⟨q3, q4⟩ := cloAt_ok (w' := w') (Z' := Z') h.2 h2
  exact ⟨⟨q1, q3⟩, fun d hd => (List.mem_cons.1 hd).elim (fun e => e ▸ q2) (q4 d)⟩

theorem fitKs_ok {objs : List (Nat × Ob)} {ρ : List (Option Nat)} (h : RepAt E N U ob Z s a w) (ho : ∀ i o, look i objs = some o → look i s.objs = some o) {l : List Nat} : ∀ {ks : List SK} {gs : List GV} {us : List Value} {r : KsD ks × List Nat}, fitKs objs ρ ks gs = some r → All2 (VR w Z ob) gs us → (∀ i, i ∈ r.2 → i ∈ l) →
  All2 (VR w (Lz ob Z l) (obOf ob ρ)) (stKs id ks r.1) us ∧ ∀ g ∈ stKs id ks r.1, g.ids (fun k => k < ρ.length)
 | [], [], [], r, hf, _, _ => by simp only [fitKs] at hf; cases hf; exact ⟨trivial, by simp [stKs]⟩
 | .val t :: ks, .sv v :: gs, u :: us, r, hf, ⟨h1, h2⟩, hl => by
  simp only [fitKs] at hf
  split at hf
  ·rename_i x q hx hq
   cases hf
   obtain ⟨q1, q2⟩ := fitKs_ok h ho hq h2 (fun i hi => hl i (by simp [hi]))
   refine ⟨⟨asData_ok h ho h1 hx (fun i hi => hl i (by simp [hi])), q1⟩, fun g hg => ?_⟩
   rcases List.mem_cons.1 hg with rfl | hg
   ·trivial
   ·exact q2 g hg
  ·cases hf
 | .fp t :: ks, .sv v :: gs, u :: us, r, hf, ⟨h1, h2⟩, hl => by
  simp only [fitKs] at hf
  split at hf
  ·rename_i x q hx hq
   cases hf
   obtain ⟨q1, q2⟩ := fitKs_ok h ho hq h2 (fun i hi => hl i (by simp [hi]))
   refine ⟨⟨asFp_ok h ho h1 hx (fun i hi => hl i (by simp [hi])) (obOf ob ρ), q1⟩, fun g hg => ?_⟩
   rcases List.mem_cons.1 hg with rfl | hg
   ·trivial
   ·exact q2 g hg
  ·cases hf
 | .row k :: ks, .sv v :: gs, u :: us, r, hf, ⟨h1, h2⟩, hl => by
  simp only [fitKs] at hf
  cases hb : rowAt ρ k v <;> rw [hb] at hf <;> simp only [cond_true, cond_false] at hf
  ·cases hf
  obtain ⟨q1, q2⟩ := fitKs_ok h ho hf h2 hl
  obtain ⟨q3, q4⟩ := rowAt_ok (w' := w) (Z' := Lz ob Z l) hb h1
  refine ⟨⟨q3, q1⟩, fun g hg => ?_⟩
  rcases List.mem_cons.1 hg with rfl | hg
  ·exact q4
  ·exact q2 g hg
 | .ref k T :: ks, .sv v :: gs, u :: us, r, hf, ⟨h1, h2⟩, hl => by
  simp only [fitKs] at hf
  cases hb : refAt ρ k T v <;> rw [hb] at hf <;> simp only [cond_true, cond_false] at hf
  ·cases hf
  obtain ⟨q1, q2⟩ := fitKs_ok h ho hf h2 hl
  obtain ⟨q3, q4⟩ := refAt_ok (w' := w) (Z' := Lz ob Z l) hb h1
  refine ⟨⟨q3, q1⟩, fun g hg => ?_⟩
  rcases List.mem_cons.1 hg with rfl | hg
  ·exact q4
  ·exact q2 g hg
 | .nilp :: ks, .sv v :: gs, u :: us, r, hf, ⟨h1, h2⟩, hl => by
  simp only [fitKs] at hf
  split at hf
  ·obtain ⟨q1, q2⟩ := fitKs_ok h ho hf h2 hl
   refine ⟨⟨h1, q1⟩, fun g hg => ?_⟩
   rcases List.mem_cons.1 hg with rfl | hg
   ·trivial
   ·exact q2 g hg
  ·cases hf
 | .clo f cs :: ks, .clo f' vs :: gs, u :: us, r, hf, ⟨h1, h2⟩, hl => by
  simp only [fitKs] at hf
  cases hb : Nat.beq f f' && cloAt ρ cs vs <;> rw [hb] at hf <;> simp only [cond_true, cond_false] at hf
  ·cases hf
  simp only [Bool.and_eq_true] at hb
  have hff := Nat.eq_of_beq_eq_true hb.1
  subst hff
  obtain ⟨q1, q2⟩ := fitKs_ok h ho hf h2 hl
  obtain ⟨us', e, hall⟩ := h1
  obtain ⟨q3, q4⟩ := cloAt_ok (w' := w) (Z' := Lz ob Z l) hb.2 hall
  refine ⟨⟨⟨us', e, q3⟩, q1⟩, fun g hg => ?_⟩
  rcases List.mem_cons.1 hg with rfl | hg
  ·intro v hv
   obtain ⟨c, hc, rfl⟩ := List.mem_map.1 hv
   exact q4 c hc
  ·exact q2 g hg
 | .val _ :: _, .tup _ :: _, _, _, hf, _, _ | .val _ :: _, .clo _ _ :: _, _, _, hf, _, _ | .fp _ :: _, .tup _ :: _, _, _, hf, _, _ | .fp _ :: _, .clo _ _ :: _, _, _, hf, _, _
 | .row _ :: _, .tup _ :: _, _, _, hf, _, _ | .row _ :: _, .clo _ _ :: _, _, _, hf, _, _ | .ref _ _ :: _, .tup _ :: _, _, _, hf, _, _ | .ref _ _ :: _, .clo _ _ :: _, _, _, hf, _, _
 | .nilp :: _, .tup _ :: _, _, _, hf, _, _ | .nilp :: _, .clo _ _ :: _, _, _, hf, _, _ | .clo _ _ :: _, .sv _ :: _, _, _, hf, _, _ | .clo _ _ :: _, .tup _ :: _, _, _, hf, _, _ => by simp [fitKs] at hf
 | .val _ :: _, [], _, _, hf, _, _ | .fp _ :: _, [], _, _, hf, _, _ | .row _ :: _, [], _, _, hf, _, _ | .ref _ _ :: _, [], _, _, hf, _, _ | .nilp :: _, [], _, _, hf, _, _ | .clo _ _ :: _, [], _, _, hf, _, _ => by simp [fitKs] at hf
 | [], _ :: _, _, _, hf, _, _ => by simp [fitKs] at hf

theorem objAt_ok {objs : List (Nat × Ob)} {ρ : List (Option Nat)} {k : Nat} {o : Ob} (h : objAt objs ρ k = some o) : ∃ i, ρ[k]? = some (some i) ∧ look i objs = some o := by
 unfold objAt at h
 split at h
 ·rename_i i hi; exact ⟨i, hi, h⟩
 ·cases h
theorem obOf_at {ρ : List (Option Nat)} {k i : Nat} (h : ρ[k]? = some (some i)) : obOf ob ρ k = ob i := by simp only [obOf, h]
def NewOb (w : World) (Z Z' : Nat → Prop) (ob : Nat → Value) (objs : List (Nat × Ob)) (ρ : List (Option Nat)) (k : Nat) (o : Ob) : Prop :=
 OR w Z' (obOf ob ρ) k o ∧ o.own = true ∧ o.ids (fun k => k < ρ.length) ∧ ∀ b, blk (obOf ob ρ k) = some b → ∃ i o', ρ[k]? = some (some i) ∧ look i objs = some o' ∧ o'.own = true ∧ blk (ob i) = some b
theorem fitOs_ok {objs : List (Nat × Ob)} {ρ : List (Option Nat)} (h : RepAt E N U ob Z s a w) (ho : ∀ i o, look i objs = some o → look i s.objs = some o) {l : List Nat} : ∀ {os : List (OK × Bd)} {k : Nat} {r : OsD os × List Nat}, fitOs objs ρ os k = some r → (∀ i, i ∈ r.2 → i ∈ l) →
  ∀ j o, (stOs id os r.1)[j]? = some o → NewOb w Z (Lz ob Z l) ob objs ρ (k + j) o
 | [], k, r, hf, _, j, o, hj => by simp only [fitOs] at hf; cases hf; simp [stOs] at hj
 | (.row e t, bd) :: os, k, r, hf, hl, j, o, hj => by
  simp only [fitOs] at hf
  split at hf
  ·rename_i x q hx hq
   cases hf
   cases j with
   | succ j => have := fitOs_ok h ho hq hl j o (by simpa [stOs] using hj); rwa [show k + (j + 1) = k + 1 + j by omega]
   | zero =>
    simp [stOs] at hj; subst hj
    rw [Nat.add_zero]
    split at hx
    ·rename_i hn
     cases hx
     refine ⟨⟨[], trivial, by simp only [obOf, hn]; exact World.ownsRow_nil w 0 e t.size, fun h => by cases h⟩, rfl, trivial, fun b hb => ?_⟩
     simp only [obOf, hn, blk] at hb; cases hb
    ·split at hx
     ·rename_i e' t' xs hat
      obtain ⟨i, h1, h2⟩ := objAt_ok hat
      cases hee : Nat.beq e e' <;> rw [hee] at hx <;> simp only [cond_true, cond_false] at hx
      ·cases hx
      have hee' := Nat.eq_of_beq_eq_true hee
      subst hee'
      obtain ⟨hte, hy⟩ := tcast_some hx
      cases hte
      simp only at hy; subst hy
      obtain ⟨uss, q1, q2, q3⟩ := (h.objs _ _ (ho _ _ h2)).2.1
      refine ⟨⟨uss, q1.mono fun _ _ hd => hd.mono (Same.refl _ _) fun _ h => .inl h, by rw [obOf_at h1]; exact q2, fun h => by cases h⟩, rfl, trivial, fun b hb => ⟨i, _, h1, h2, rfl, by rw [obOf_at h1] at hb; exact hb⟩⟩
     ·cases hx
  ·cases hf
 | (.box e t, bd) :: os, k, r, hf, hl, j, o, hj => by
  simp only [fitOs] at hf
  split at hf
  ·rename_i x q hx hq
   cases hf
   cases j with
   | succ j => have := fitOs_ok h ho hq hl j o (by simpa [stOs] using hj); rwa [show k + (j + 1) = k + 1 + j by omega]
   | zero =>
    simp [stOs] at hj; subst hj
    rw [Nat.add_zero]
    split at hx
    ·rename_i e' t' y hat
     obtain ⟨i, h1, h2⟩ := objAt_ok hat
     cases hee : Nat.beq e e' <;> rw [hee] at hx <;> simp only [cond_true, cond_false] at hx
     ·cases hx
     have hee' := Nat.eq_of_beq_eq_true hee
     subst hee'
     obtain ⟨hte, hy⟩ := tcast_some hx
     subst hte
     simp only at hy; subst hy
     obtain ⟨g, vs, q1, q2, q3, q4⟩ := (h.objs _ _ (ho _ _ h2)).2.1
     refine ⟨⟨g, vs, by rw [obOf_at h1]; exact q1, q2.mono (Same.refl _ _) (fun _ h => .inl h), q3, fun h => by cases h⟩, rfl, trivial, fun b hb => ⟨i, _, h1, h2, rfl, by rw [obOf_at h1] at hb; exact hb⟩⟩
    ·cases hx
  ·cases hf
 | (.vbox e (.val t), bd) :: os, k, r, hf, hl, j, o, hj => by
  simp only [fitOs] at hf
  split at hf
  ·rename_i e' v hat
   cases hee : Nat.beq e e' <;> rw [hee] at hf <;> simp only [cond_true, cond_false] at hf
   ·cases hf
   have hee' := Nat.eq_of_beq_eq_true hee
   subst hee'
   split at hf
   ·rename_i x q hx hq
    cases hf
    cases j with
    | succ j => have := fitOs_ok h ho hq (fun i hi => hl i (by simp [hi])) j o (by simpa [stOs] using hj); rwa [show k + (j + 1) = k + 1 + j by omega]
    | zero =>
     simp [stOs] at hj; subst hj
     rw [Nat.add_zero]
     obtain ⟨i, h1, h2⟩ := objAt_ok hat
     obtain ⟨g, u, q1, q2, q3, q4⟩ := (h.objs _ _ (ho _ _ h2)).2.1
     have hd := asData_ok h ho q2 hx (l := l) (fun i hi => hl i (by simp [hi]))
     exact ⟨⟨g, u, by rw [obOf_at h1]; exact q1, hd, q3, q4⟩, rfl, trivial, fun b hb => ⟨i, _, h1, h2, rfl, by rw [obOf_at h1] at hb; exact hb⟩⟩
   ·cases hf
  ·cases hf
 | (.vbox e (.row m), bd) :: os, k, r, hf, hl, j, o, hj => by
  simp only [fitOs] at hf
  split at hf
  ·rename_i e' v hat
   cases hee : Nat.beq e e' && rowAt ρ m v <;> rw [hee] at hf <;> simp only [cond_true, cond_false] at hf
   ·cases hf
   simp only [Bool.and_eq_true] at hee
   have hee' := Nat.eq_of_beq_eq_true hee.1
   subst hee'
   cases j with
   | succ j => have := fitOs_ok h ho hf hl j o (by simpa [stOs] using hj); rwa [show k + (j + 1) = k + 1 + j by omega]
   | zero =>
    simp [stOs] at hj; subst hj
    rw [Nat.add_zero]
    obtain ⟨i, h1, h2⟩ := objAt_ok hat
    obtain ⟨g, u, q1, q2, q3, q4⟩ := (h.objs _ _ (ho _ _ h2)).2.1
    obtain ⟨q5, q6⟩ := rowAt_ok (w' := w) (Z' := Lz ob Z l) hee.2 q2
    exact ⟨⟨g, u, by rw [obOf_at h1]; exact q1, q5, q3, q4⟩, rfl, q6, fun b hb => ⟨i, _, h1, h2, rfl, by rw [obOf_at h1] at hb; exact hb⟩⟩
  ·cases hf
 | (.vbox e (.ref m T), bd) :: os, k, r, hf, hl, j, o, hj => by
  simp only [fitOs] at hf
  split at hf
  ·rename_i e' v hat
   cases hee : Nat.beq e e' && refAt ρ m T v <;> rw [hee] at hf <;> simp only [cond_true, cond_false] at hf
   ·cases hf
   simp only [Bool.and_eq_true] at hee
   have hee' := Nat.eq_of_beq_eq_true hee.1
   subst hee'
   cases j with
   | succ j => have := fitOs_ok h ho hf hl j o (by simpa [stOs] using hj); rwa [show k + (j + 1) = k + 1 + j by omega]
   | zero =>
    simp [stOs] at hj; subst hj
    rw [Nat.add_zero]
    obtain ⟨i, h1, h2⟩ := objAt_ok hat
    obtain ⟨g, u, q1, q2, q3, q4⟩ := (h.objs _ _ (ho _ _ h2)).2.1
    obtain ⟨q5, q6⟩ := refAt_ok (w' := w) (Z' := Lz ob Z l) hee.2 q2
    exact ⟨⟨g, u, by rw [obOf_at h1]; exact q1, q5, q3, q4⟩, rfl, q6, fun b hb => ⟨i, _, h1, h2, rfl, by rw [obOf_at h1] at hb; exact hb⟩⟩
  ·cases hf
 | (.sval e T f t, bd) :: os, k, r, hf, hl, j, o, hj => by
  simp only [fitOs] at hf
  split at hf
  ·rename_i e' T' x f' v hat
   cases hee : Nat.beq e e' && Nat.beq f f' <;> rw [hee] at hf <;> simp only [cond_true, cond_false] at hf
   ·cases hf
   simp only [Bool.and_eq_true] at hee
   have h1' := Nat.eq_of_beq_eq_true hee.1
   have h2' := Nat.eq_of_beq_eq_true hee.2
   subst h1'
   subst h2'
   split at hf
   ·rename_i z y q hz hy hq
    cases hf
    cases j with
    | succ j => have := fitOs_ok h ho hq (fun i hi => hl i (by simp [hi])) j o (by simpa [stOs] using hj); rwa [show k + (j + 1) = k + 1 + j by omega]
    | zero =>
     simp [stOs] at hj; subst hj
     rw [Nat.add_zero]
     obtain ⟨i, h1, h2⟩ := objAt_ok hat
     obtain ⟨hte, hzz⟩ := tcast_some hz
     subst hte
     simp only at hzz; subst hzz
     obtain ⟨g, vs, u, q1, q2, q3, q4, q5, q6⟩ := (h.objs _ _ (ho _ _ h2)).2.1
     have hd := asData_ok h ho q3 hy (l := l) (fun i hi => hl i (by simp [hi]))
     exact ⟨⟨g, vs, u, by rw [obOf_at h1]; exact q1, q2.mono (Same.refl _ _) (fun _ h => .inl h), hd, q4, q5, q6⟩, rfl, trivial, fun b hb => ⟨i, _, h1, h2, rfl, by rw [obOf_at h1] at hb; exact hb⟩⟩
   ·cases hf
  ·cases hf
 | (.srow e T f m, bd) :: os, k, r, hf, hl, j, o, hj => by
  simp only [fitOs] at hf
  split at hf
  ·rename_i e' T' x f' v hat
   cases hee : Nat.beq e e' && Nat.beq f f' && rowAt ρ m v <;> rw [hee] at hf <;> simp only [cond_true, cond_false] at hf
   ·cases hf
   simp only [Bool.and_eq_true] at hee
   have h1' := Nat.eq_of_beq_eq_true hee.1.1
   have h2' := Nat.eq_of_beq_eq_true hee.1.2
   subst h1'
   subst h2'
   split at hf
   ·rename_i z q hz hq
    cases hf
    cases j with
    | succ j => have := fitOs_ok h ho hq hl j o (by simpa [stOs] using hj); rwa [show k + (j + 1) = k + 1 + j by omega]
    | zero =>
     simp [stOs] at hj; subst hj
     rw [Nat.add_zero]
     obtain ⟨i, h1, h2⟩ := objAt_ok hat
     obtain ⟨hte, hzz⟩ := tcast_some hz
     subst hte
     simp only at hzz; subst hzz
     obtain ⟨g, vs, u, q1, q2, q3, q4, q5, q6⟩ := (h.objs _ _ (ho _ _ h2)).2.1
     obtain ⟨p5, p6⟩ := rowAt_ok (w' := w) (Z' := Lz ob Z l) hee.2 q3
     exact ⟨⟨g, vs, u, by rw [obOf_at h1]; exact q1, q2.mono (Same.refl _ _) (fun _ h => .inl h), p5, q4, q5, q6⟩, rfl, p6, fun b hb => ⟨i, _, h1, h2, rfl, by rw [obOf_at h1] at hb; exact hb⟩⟩
   ·cases hf
  ·cases hf
 | (.raw, bd) :: os, k, r, hf, hl, j, o, hj => by
  simp only [fitOs] at hf
  split at hf
  ·rename_i c hat
   split at hf
   ·rename_i q hq
    cases hf
    cases j with
    | succ j => have := fitOs_ok h ho hq hl j o (by simpa [stOs] using hj); rwa [show k + (j + 1) = k + 1 + j by omega]
    | zero =>
     simp [stOs] at hj; subst hj
     rw [Nat.add_zero]
     obtain ⟨i, h1, h2⟩ := objAt_ok hat
     have q1 : OR w Z ob i (.raw c) := (h.objs _ _ (ho _ _ h2)).2.1
     exact ⟨fun g hg => q1 g (by rw [obOf_at h1] at hg; exact hg), rfl, trivial, fun b hb => ⟨i, _, h1, h2, rfl, by rw [obOf_at h1] at hb; exact hb⟩⟩
   ·cases hf
  ·cases hf

theorem bindOs_len {objs : List (Nat × Ob)} {gs : List GV} : ∀ {os : List (OK × Bd)} {acc ρ : List (Option Nat)}, bindOs objs gs os acc = some ρ → ρ.length = acc.length + os.length
 | [], acc, ρ, h => by simp only [bindOs] at h; cases h; simp
 | (o, b) :: os, acc, ρ, h => by
  simp only [bindOs] at h
  split at h
  ·have := bindOs_len h; simp at this ⊢; omega
  ·cases h
theorem stOs_len (m : Nat → Nat) : ∀ {os : List (OK × Bd)} {y : OsD os}, (stOs m os y).length ≤ os.length ∧ (stOs m os y).length = os.length
 | [], _ => by simp [stOs]
 | (.row e t, bd) :: os, y => by have := @stOs_len m os y.2; simp [stOs, this.2]
 | (.box e t, bd) :: os, y => by have := @stOs_len m os y.2; simp [stOs, this.2]
 | (.vbox e (.val t), bd) :: os, y => by have := @stOs_len m os y.2; simp [stOs, this.2]
 | (.vbox e (.row k), bd) :: os, y => by have := @stOs_len m os y; simp [stOs, this.2]
 | (.vbox e (.ref k T), bd) :: os, y => by have := @stOs_len m os y; simp [stOs, this.2]
 | (.sval e T f t, bd) :: os, y => by have := @stOs_len m os y.2.2; simp [stOs, this.2]
 | (.srow e T f k, bd) :: os, y => by have := @stOs_len m os y.2; simp [stOs, this.2]
 | (.raw, bd) :: os, y => by have := @stOs_len m os y.2; simp [stOs, this.2]

theorem asData_lent {objs : List (Nat × Ob)} {t : Ty} {v : SV} {x : t.den} (h : asData objs t v = some x) : ∀ i, i ∈ lentBy objs v → ∃ o, look i objs = some o := by
 intro i hi
 cases v <;> simp only [asData] at h <;> simp [lentBy] at hi
 ·subst hi
  split at h
  ·exact ⟨_, by assumption⟩
  ·cases h
 ·cases h
 ·subst hi
  split at h
  ·exact ⟨_, by assumption⟩
  ·cases h
theorem asFp_lent {objs : List (Nat × Ob)} {t : Ty} {v : SV} {x : t.den} (h : asFp objs t v = some x) : ∀ i, i ∈ lentBy objs v → ∃ o, look i objs = some o := by
 intro i hi
 cases v <;> simp only [asFp] at h <;> (try (simp [lentBy] at hi; done)) <;> (try cases h)
 rename_i j T p
 simp only [lentBy] at hi
 split at h
 ·rename_i hlo; rw [hlo] at hi; simp at hi; subst hi; exact ⟨_, hlo⟩
 ·rename_i hlo; rw [hlo] at hi; simp at hi; subst hi; exact ⟨_, hlo⟩
 ·rename_i e v' hlo
  rw [hlo] at hi
  split at h
  ·split at hi
   ·rename_i q
    cases q
    rcases List.mem_cons.1 hi with rfl | hi
    ·exact ⟨_, hlo⟩
    ·simp at hi; subst hi; exact asData_lent h _ (by simp [lentBy])
   ·rename_i q
    cases q
    rcases List.mem_cons.1 hi with rfl | hi
    ·exact ⟨_, hlo⟩
    ·simp at hi; subst hi; exact asData_lent h _ (by simp [lentBy])
   ·simp at hi; subst hi; exact ⟨_, hlo⟩
  ·cases h
 ·cases h
theorem fitKs_lent {objs : List (Nat × Ob)} {ρ : List (Option Nat)} : ∀ {ks : List SK} {gs : List GV} {r : KsD ks × List Nat}, fitKs objs ρ ks gs = some r → ∀ i, i ∈ r.2 → ∃ o, look i objs = some o
 | [], [], r, h, i, hi => by simp only [fitKs] at h; cases h; simp at hi
 | .val t :: ks, .sv v :: gs, r, h, i, hi => by
  simp only [fitKs] at h
  split at h
  ·rename_i hx hq
   cases h
   rcases List.mem_append.1 hi with hi | hi
   ·exact asData_lent hx i hi
   ·exact fitKs_lent hq i hi
  ·cases h
 | .fp t :: ks, .sv v :: gs, r, h, i, hi => by
  simp only [fitKs] at h
  split at h
  ·rename_i hx hq
   cases h
   rcases List.mem_append.1 hi with hi | hi
   ·exact asFp_lent hx i hi
   ·exact fitKs_lent hq i hi
  ·cases h
 | .row k :: ks, .sv v :: gs, r, h, i, hi => by
  simp only [fitKs] at h
  cases hb : rowAt ρ k v <;> rw [hb] at h <;> simp only [cond_true, cond_false] at h
  ·cases h
  exact fitKs_lent h i hi
 | .ref k T :: ks, .sv v :: gs, r, h, i, hi => by
  simp only [fitKs] at h
  cases hb : refAt ρ k T v <;> rw [hb] at h <;> simp only [cond_true, cond_false] at h
  ·cases h
  exact fitKs_lent h i hi
 | .nilp :: ks, .sv v :: gs, r, h, i, hi => by
  simp only [fitKs] at h
  split at h
  ·exact fitKs_lent h i hi
  ·cases h
 | .clo f cs :: ks, .clo f' vs :: gs, r, h, i, hi => by
  simp only [fitKs] at h
  cases hb : Nat.beq f f' && cloAt ρ cs vs <;> rw [hb] at h <;> simp only [cond_true, cond_false] at h
  ·cases h
  exact fitKs_lent h i hi
 | .val _ :: _, .tup _ :: _, _, h, _, _ | .val _ :: _, .clo _ _ :: _, _, h, _, _ | .fp _ :: _, .tup _ :: _, _, h, _, _ | .fp _ :: _, .clo _ _ :: _, _, h, _, _
 | .row _ :: _, .tup _ :: _, _, h, _, _ | .row _ :: _, .clo _ _ :: _, _, h, _, _ | .ref _ _ :: _, .tup _ :: _, _, h, _, _ | .ref _ _ :: _, .clo _ _ :: _, _, h, _, _
 | .nilp :: _, .tup _ :: _, _, h, _, _ | .nilp :: _, .clo _ _ :: _, _, h, _, _ | .clo _ _ :: _, .sv _ :: _, _, h, _, _ | .clo _ _ :: _, .tup _ :: _, _, h, _, _ => by simp [fitKs] at h
 | .val _ :: _, [], _, h, _, _ | .fp _ :: _, [], _, h, _, _ | .row _ :: _, [], _, h, _, _ | .ref _ _ :: _, [], _, h, _, _ | .nilp :: _, [], _, h, _, _ | .clo _ _ :: _, [], _, h, _, _ => by simp [fitKs] at h
 | [], _ :: _, _, h, _, _ => by simp [fitKs] at h
theorem fitOs_lent {objs : List (Nat × Ob)} {ρ : List (Option Nat)} : ∀ {os : List (OK × Bd)} {k : Nat} {r : OsD os × List Nat}, fitOs objs ρ os k = some r → ∀ i, i ∈ r.2 → ∃ o, look i objs = some o
 | [], k, r, h, i, hi => by simp only [fitOs] at h; cases h; simp at hi
 | (.row e t, bd) :: os, k, r, h, i, hi => by
  simp only [fitOs] at h
  split at h
  ·rename_i hq; cases h; exact fitOs_lent hq i hi
  ·cases h
 | (.box e t, bd) :: os, k, r, h, i, hi => by
  simp only [fitOs] at h
  split at h
  ·rename_i hq; cases h; exact fitOs_lent hq i hi
  ·cases h
 | (.vbox e (.val t), bd) :: os, k, r, h, i, hi => by
  simp only [fitOs] at h
  split at h
  ·rename_i e' v hat
   cases hee : Nat.beq e e' <;> rw [hee] at h <;> simp only [cond_true, cond_false] at h
   ·cases h
   split at h
   ·rename_i hx hq
    cases h
    rcases List.mem_append.1 hi with hi | hi
    ·exact asData_lent hx i hi
    ·exact fitOs_lent hq i hi
   ·cases h
  ·cases h
 | (.vbox e (.row m), bd) :: os, k, r, h, i, hi => by
  simp only [fitOs] at h
  split at h
  ·rename_i e' v hat
   cases hee : Nat.beq e e' && rowAt ρ m v <;> rw [hee] at h <;> simp only [cond_true, cond_false] at h
   ·cases h
   exact fitOs_lent h i hi
  ·cases h
 | (.vbox e (.ref m T), bd) :: os, k, r, h, i, hi => by
  simp only [fitOs] at h
  split at h
  ·rename_i e' v hat
   cases hee : Nat.beq e e' && refAt ρ m T v <;> rw [hee] at h <;> simp only [cond_true, cond_false] at h
   ·cases h
   exact fitOs_lent h i hi
  ·cases h
 | (.sval e T f t, bd) :: os, k, r, h, i, hi => by
  simp only [fitOs] at h
  split at h
  ·rename_i e' T' x f' v hat
   cases hee : Nat.beq e e' && Nat.beq f f' <;> rw [hee] at h <;> simp only [cond_true, cond_false] at h
   ·cases h
   split at h
   ·rename_i hx hq
    cases h
    rcases List.mem_append.1 hi with hi | hi
    ·exact asData_lent hx i hi
    ·exact fitOs_lent hq i hi
   ·cases h
  ·cases h
 | (.srow e T f m, bd) :: os, k, r, h, i, hi => by
  simp only [fitOs] at h
  split at h
  ·rename_i e' T' x f' v hat
   cases hee : Nat.beq e e' && Nat.beq f f' && rowAt ρ m v <;> rw [hee] at h <;> simp only [cond_true, cond_false] at h
   ·cases h
   split at h
   ·rename_i hq
    cases h
    exact fitOs_lent hq i hi
   ·cases h
  ·cases h
 | (.raw, bd) :: os, k, r, h, i, hi => by
  simp only [fitOs] at h
  split at h
  ·split at h
   ·rename_i hq
    cases h
    exact fitOs_lent hq i hi
   ·cases h
  ·cases h

theorem inB_of {ρ : List (Option Nat)} {k i : Nat} (h : ρ[k]? = some (some i)) : inB ρ i = true := by
 unfold inB
 rw [List.any_eq_true]
 exact ⟨some i, List.mem_of_getElem? h, nbeq_self i⟩
theorem once_inj : ∀ {ρ : List (Option Nat)}, onceB ρ = true → ∀ {k l i : Nat}, ρ[k]? = some (some i) → ρ[l]? = some (some i) → k = l
 | [], _, k, l, i, h1, _ => by simp at h1
 | none :: ρ, h, k, l, i, h1, h2 => by
  simp only [onceB] at h
  cases k with
  | zero => simp at h1
  | succ k => cases l with
   | zero => simp at h2
   | succ l => have := once_inj (k := k) (l := l) (i := i) h (by simpa using h1) (by simpa using h2); omega
 | some j :: ρ, h, k, l, i, h1, h2 => by
  simp only [onceB, Bool.and_eq_true, Bool.not_eq_true'] at h
  cases k with
  | zero =>
   simp at h1; subst h1
   cases l with
   | zero => rfl
   | succ l => rw [inB_of (ρ := ρ) (k := l) (by simpa using h2)] at h; cases h.1
  | succ k =>
   cases l with
   | zero => simp at h2; subst h2; rw [inB_of (ρ := ρ) (k := k) (by simpa using h1)] at h; cases h.1
   | succ l => have := once_inj (k := k) (l := l) (i := i) h.2 (by simpa using h1) (by simpa using h2); omega

theorem look_number {α : Type} : ∀ {l : List α} {n i : Nat} {x : α}, look i (number n l) = some x → n ≤ i ∧ l[i - n]? = some x
 | [], n, i, x, h => by simp [number, look] at h
 | y :: l, n, i, x, h => by
  simp only [number, look] at h
  cases hb : Nat.beq n i with
  | true =>
   rw [hb] at h
   have e := Nat.eq_of_beq_eq_true hb
   subst e
   simp at h; subst h
   exact ⟨Nat.le_refl _, by simp⟩
  | false =>
   rw [hb] at h
   simp only [cond_false] at h
   obtain ⟨h1, h2⟩ := look_number h
   exact ⟨by omega, by rw [show i - n = (i - (n + 1)) + 1 by omega]; simpa using h2⟩
theorem look_zip {α : Type} : ∀ {ns : List Nat} {l : List α} {n : Nat} {x : α}, look n (ns.zip l) = some x → ∃ i : Nat, ns[i]? = some n ∧ l[i]? = some x
 | [], l, n, x, h => by simp [look] at h
 | m :: ns, [], n, x, h => by simp [look] at h
 | m :: ns, y :: l, n, x, h => by
  simp only [List.zip_cons_cons, look] at h
  cases hb : Nat.beq m n with
  | true =>
   rw [hb] at h
   have e := Nat.eq_of_beq_eq_true hb
   subst e
   simp at h; subst h
   exact ⟨0, rfl, rfl⟩
  | false =>
   rw [hb] at h
   simp only [cond_false] at h
   obtain ⟨i, h1, h2⟩ := look_zip h
   exact ⟨i + 1, by simpa using h1, by simpa using h2⟩

theorem fitG_parts {gs : List GV} {objs : List (Nat × Ob)} {c : Spec} {f : Fit c} (h : fitG gs objs c = some f) :
  ∃ a b, fitKs objs f.ρ c.ks gs = some a ∧ fitOs objs f.ρ c.os 0 = some b ∧ f.y = (a.1, b.1) ∧ f.lent = a.2 ++ b.2 ∧ onceB f.ρ = true ∧ (∀ i, i ∈ f.lent → inB f.ρ i = false) ∧ f.ρ.length = c.os.length := by
 unfold fitG at h
 split at h
 ·cases h
 ·rename_i ρ hρ
  split at h
  ·rename_i a b ha hb
   cases hc : onceB ρ && (a.2 ++ b.2).all (fun i => !(inB ρ i)) <;> rw [hc] at h <;> simp only [cond_true, cond_false] at h <;> cases h
   simp only [Bool.and_eq_true, List.all_eq_true] at hc
   refine ⟨a, b, ha, hb, rfl, rfl, hc.1, fun i hi => by simpa using hc.2 i hi, by have := bindOs_len hρ; simpa using this⟩
  ·cases h

theorem fit_rep {objs : List (Nat × Ob)} {gs : List GV} {us : List Value} {c : Spec} {f : Fit c} (h : RepAt E N U ob Z s a w) (ho : ∀ i o, look i objs = some o → look i s.objs = some o) (hv : All2 (VR w Z ob) gs us) (hf : fitG gs objs c = some f)
  {E' : Env} {N' : Nat} {ns : List Nat} {a' : Act} (hd : a'.defers = []) (hsz : a'.tmps.size = N') (hns : ∀ (i n : Nat) (u : Value), ns[i]? = some n → us[i]? = some u → n < N' ∧ u = a'.tmps.getD n undef) (hk : Kept E'.M E'.w0 w)
  (hz0 : ∀ b, Lz ob Z f.lent b → b < E'.w0.heap.size → E'.Z0 b ∨ E'.M b) (hM : ∀ (k i : Nat) (o : Ob) (b : Nat), f.ρ[k]? = some (some i) → look i s.objs = some o → o.own = true → blk (ob i) = some b → E'.M b ∨ E'.w0.heap.size ≤ b)
  (hg : E'.globs = E.globs) (hp : ∀ p ∈ E'.pins, obOf ob f.ρ p.1 = p.2 ∧ p.1 < c.os.length) :
  RepAt E' N' (fun k => k < c.os.length) (obOf ob f.ρ) (Lz ob Z f.lent) (c.st ns f.y) a' w := by
 obtain ⟨pa, pb, h1, h2, h3, h4, h5, h6, h7⟩ := fitG_parts hf
 have hla : ∀ i, i ∈ pa.2 → i ∈ f.lent := fun i hi => by rw [h4]; simp [hi]
 have hlb : ∀ i, i ∈ pb.2 → i ∈ f.lent := fun i hi => by rw [h4]; simp [hi]
 obtain ⟨k1, k2⟩ := fitKs_ok h ho h1 hv hla
 have k3 := fitOs_ok h ho h2 hlb
 have hlent : ∀ i, i ∈ f.lent → ∃ o, look i s.objs = some o := by
  intro i hi
  rw [h4] at hi
  rcases List.mem_append.1 hi with hi | hi
  ·obtain ⟨o, q⟩ := fitKs_lent h1 i hi; exact ⟨o, ho i o q⟩
  ·obtain ⟨o, q⟩ := fitOs_lent h2 i hi; exact ⟨o, ho i o q⟩
 rw [h7] at k2
 have hobj : ∀ k o, look k (c.st ns f.y).objs = some o → NewOb w Z (Lz ob Z f.lent) ob objs f.ρ k o := by
  intro k o hk
  simp only [Spec.st, h3] at hk
  have := (look_number hk).2
  have := k3 _ _ this
  simpa using this
 have hnot : ∀ k o b, look k (c.st ns f.y).objs = some o → blk (obOf ob f.ρ k) = some b → ¬ Lz ob Z f.lent b := by
  intro k o b hk hb hL
  obtain ⟨_, _, _, q⟩ := hobj k o hk
  obtain ⟨i, o', q1, q2, q3, q4⟩ := q b hb
  have hi := ho i o' q2
  rcases hL with hL | ⟨j, hj, hjb⟩
  ·exact (h.own i o' hi q3 b q4).1 hL
  ·obtain ⟨oj, hoj⟩ := hlent j hj
   have hne : j ≠ i := fun e => by subst e; have := h6 j hj; rw [inB_of q1] at this; cases this
   cases hown : oj.own with
   | true => exact h.apart j i oj o' hne hoj hi hown q3 b hjb q4
   | false => exact (h.own i o' hi q3 b q4).1 ((h.objs j oj hoj).2.1.block_Z hown b hjb)
 refine { defers := hd, size := hsz, kept := hk, zlt := ?_, z0 := hz0, slots := ?_, objs := ?_, own := ?_, apart := ?_, globs := ?_, pins := ?_ }
 ·rintro b (hb | ⟨i, hi, hb⟩)
  ·exact h.zlt b hb
  ·obtain ⟨o, ho'⟩ := hlent i hi; exact (h.objs i o ho').2.1.block_lt b hb
 ·intro n g hl
  simp only [Spec.st, h3] at hl
  obtain ⟨i, q1, q2⟩ := look_zip hl
  obtain ⟨u, q3, q4⟩ := k1.at_ q2
  obtain ⟨q5, q6⟩ := hns i n u q1 q3
  exact ⟨q5, by rw [← q6]; exact q4, k2 g (List.mem_of_getElem? q2)⟩
 ·intro k o hk
  obtain ⟨q1, q2, q3, _⟩ := hobj k o hk
  refine ⟨?_, q1, by rw [h7] at q3; exact q3⟩
  simp only [Spec.st] at hk
  have := (List.getElem?_eq_some_iff.1 (look_number hk).2).1
  rw [(stOs_len id).2] at this
  omega
 ·intro k o hk _ b hb
  refine ⟨hnot k o b hk hb, ?_⟩
  obtain ⟨_, _, _, q⟩ := hobj k o hk
  obtain ⟨i, o', q1, q2, q3, q4⟩ := q b hb
  exact hM k i o' b q1 (ho _ _ q2) q3 q4
 ·intro k l o o' hne hk hl _ _ b hb hb'
  obtain ⟨_, _, _, q⟩ := hobj k o hk
  obtain ⟨i, oi, q1, q2, q3, q4⟩ := q b hb
  obtain ⟨_, _, _, p⟩ := hobj l o' hl
  obtain ⟨j, oj, p1, p2, p3, p4⟩ := p b hb'
  have hij : i ≠ j := fun e => hne (once_inj h5 (e ▸ q1) p1)
  exact h.apart i j oi oj hij (ho _ _ q2) (ho _ _ p2) q3 p3 b q4 p4
 ·intro g d hl
  rw [hg] at hl
  exact (h.globs g d hl).mono (U := fun _ => False) (Same.refl _ _) (fun _ h => .inl h) (fun _ h => h.elim) (by simp [SV.ids])
 ·exact hp
end
end Go.Proofs.YtehbbcdhahnkgaaGreat
