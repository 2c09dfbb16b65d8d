/- The ghost machine: an evaluator of the program's text over plain data, and its soundness. -/
import Derived.Test.YtehbbcdhahnkgaaGreatHmV
import Derived.Test.YtehbbcdhahnkgaaGreatGmY
set_option linter.unusedVariables false
set_option linter.unusedSimpArgs false
namespace Go.Proofs.YtehbbcdhahnkgaaGreat.Hm
open Go
section
variable {P : Program} {Γ : Ctx} {ρ : En} {B : Bs} {cl : CallFn} {ro : Option Nat} {k : Nat} {ds : List Deferred}
structure KOkD (P : Program) (ρ : En) (B : Bs) (ds : List Deferred) (K : XE → GS → RT) (Q : Exit → Act → World → Prop) : Prop where
 go : ∀ e G a w, StOk P ρ B G a w → (K e G).run B.S0 B.H0 = some B.r → Q e.out (T ds a) w
 up : ∀ e G, (K e G).run B.S0 B.H0 = some B.r → G.next ≤ B.r.2
theorem stOk_defers {G : GS} {a : Act} {w : World} (h : StOk P ρ B G a w) : a.defers = [] := by
 obtain ⟨⟨m, _, h, _⟩, _⟩ := h
 exact h.defers
theorem codeRT_in (hm : P.follows .mixedOrders = true) (hT : TysOk P Γ.tys) (hR : RngOk ρ Γ.R) (hcl : CallOk P ρ cl) (hB : BsOk B) {L : Nat} : ∀ (c : Code) {Q : Exit → Act → World → Prop} {G : GS} {a : Act} {w : World} {K : XE → GS → RT},
  plainC c = true → codeDst B.N c = true → StOk P ρ B G a w → (codeRT Γ cl L c G K).run B.S0 B.H0 = some B.r → KOkD P ρ B ds K Q → c.wpIn (FR ro) k P Q (T ds a) w := by
 intro c
 induction c with
 | skip => intro Q G a w K _ hd h hr hK; exact wpIn_skip (hK.go .normal G a w h hr)
 | region id ops draw =>
  intro Q G a w K hp hd h hr hK
  have hp' : ∀ o ∈ ops.toList, plainOp o = true := by simp only [plainC] at hp; exact List.all_eq_true.1 hp
  have hQ : NoDef (fun e a w => e = .normal ∧ ∃ G, StOk P ρ B G a w ∧ (K .normal G).run B.S0 B.H0 = some B.r) := ⟨fun _ _ _ ⟨_, _, h, _⟩ => stOk_defers h, fun c a w ⟨h, _⟩ => (by cases h), fun a w ⟨h, _⟩ => (by cases h)⟩
  have h2 : ∀ a w, (Exit.normal = .normal ∧ ∃ G, StOk P ρ B G a w ∧ (K .normal G).run B.S0 B.H0 = some B.r) → Q .normal (T ds a) w := fun a w ⟨_, G, h, hk⟩ => hK.go .normal G a w h hk
  cases draw with
  | true =>
   refine wpIn_region_any hm (wpAny_lift hp' hQ h2 ?_)
   exact regD_ok hT hR hcl hB hd (fun G a w h hk => ⟨rfl, G, h, hk⟩) (fun G h => hK.up _ G h) (drawn_ok h) hr
  | false =>
   refine wpIn_region (wpOps_lift hp' hQ h2 ?_)
   have := regK_ok (Q := fun e a w => e = .normal ∧ ∃ G, StOk P ρ B G a w ∧ (K .normal G).run B.S0 B.H0 = some B.r) hT hR hcl hB hd (fun G a w h hk => ⟨rfl, G, h, hk⟩) (fun G h => hK.up _ G h) (i := 0) (l := ops.toList) rfl h hr
   rw [List.range_eq_range']
   simpa using this
 | seq x y ihx ihy =>
  intro Q G a w K hp hd h hr hK
  simp only [plainC, Bool.and_eq_true] at hp
  simp only [codeDst, Bool.and_eq_true] at hd
  refine wpIn_seq (ihx (K := seqK K (codeRT Γ cl L y)) hp.1 hd.1 h hr ⟨fun e G a w h hk => ?_, fun e G hk => ?_⟩)
  ·cases e with
   | normal => exact ihy hp.2 hd.2 h hk hK
   | exit id => exact hK.go _ G a w h hk
   | ret => exact hK.go _ G a w h hk
  ·cases e with
   | normal => exact codeRT_up y (fun e G h => hK.up e G h) hk
   | exit id => exact hK.up _ G hk
   | ret => exact hK.up _ G hk
 | cond c x y ihx ihy =>
  intro Q G a w K hp hd h hr hK
  simp only [plainC, Bool.and_eq_true] at hp
  simp only [codeDst, Bool.and_eq_true] at hd
  have hr' : (condR (codeRT Γ cl L x) (codeRT Γ cl L y) G K c).run B.S0 B.H0 = some B.r := hr
  unfold condR at hr'
  split at hr'
  ·rename_i n
   unfold condV at hr'
   split at hr'
   ·rename_i t ht
    obtain ⟨⟨m, m1, m2, m3⟩, low⟩ := id h
    have hv := m2.slots n _ ht
    simp only [den, Option.some.injEq] at hv
    cases t with
    | true => exact wpIn_cond_true hv.symm (ihx hp.1 hd.1 h hr' hK)
    | false => exact wpIn_cond_false hv.symm (ihy hp.2 hd.2 h hr' hK)
   ·exact run_fail hr'
  ·rename_i v
   unfold condV at hr'
   split at hr'
   ·rename_i t ht
    have hv := constC_b ht
    subst hv
    cases t with
    | true => exact wpIn_cond_true rfl (ihx hp.1 hd.1 h hr' hK)
    | false => exact wpIn_cond_false rfl (ihy hp.2 hd.2 h hr' hK)
   ·exact run_fail hr'
  ·exact run_fail hr'
 | block id c ih =>
  intro Q G a w K hp hd h hr hK
  refine wpIn_block (ih (K := blockK id K) hp hd h hr ⟨fun e G a w h hk => ?_, fun e G hk => ?_⟩)
  ·cases e with
   | normal => exact hK.go .normal G a w h hk
   | exit j =>
    simp only [blockK] at hk
    show if j = id then Q .normal (T ds a) w else Q (.exit j) (T ds a) w
    cases hb : Nat.beq j id with
    | true => rw [hb] at hk; rw [if_pos (Nat.eq_of_beq_eq_true hb)]; exact hK.go .normal G a w h hk
    | false => rw [hb] at hk; rw [if_neg (fun e => by rw [e, nbeq_self] at hb; cases hb)]; exact hK.go _ G a w h hk
   | ret => exact hK.go .ret G a w h hk
  ·cases e with
   | normal => exact hK.up _ G hk
   | ret => exact hK.up _ G hk
   | exit j =>
    simp only [blockK] at hk
    cases hb : Nat.beq j id with
    | true => rw [hb] at hk; exact hK.up _ G hk
    | false => rw [hb] at hk; exact hK.up _ G hk
 | loop c ih => intro Q G a w K hp; cases hp
 | exit id => intro Q G a w K _ hd h hr hK; exact wpIn_exit (hK.go (.exit id) G a w h hr)
 | ret => intro Q G a w K _ hd h hr hK; exact wpIn_ret (hK.go .ret G a w h hr)
 | rangeFunc f ps x y ihx ihy => intro Q G a w K hp; cases hp
 | scope c ih => intro Q G a w K hp; cases hp
 | label l => intro Q G a w K hp; cases hp
 | goto l => intro Q G a w K hp; cases hp
 | refuse w => intro Q G a w K hp; cases hp
end
end Go.Proofs.YtehbbcdhahnkgaaGreat.Hm

namespace Go.Proofs.YtehbbcdhahnkgaaGreat.Hm
open Go
open Go.RowKit (Below)
theorem blt_lt {a b : Nat} (h : Nat.blt a b = true) : a < b := Nat.le_of_ble_eq_true h
section
variable {ρ : En} {m m0 : Mp} {n : Nat}
mutual
theorem den_lt (hm : ∀ id, id < n → m0 id = m id) : ∀ {v : HV} {x : Value}, HV.lt n v = true → den ρ m v = some x → den ρ m0 v = some x
 | .b _, _, _, e | .i _ _, _, _, e | .s _, _, _, e | .np, _, _, e | .ns, _, _, e | .nf, _, _, e | .nm, _, _, e | .kv _, _, _, e | .kp _ _, _, _, e => by simpa only [den] using e
 | .p id off, x, h, e | .sl id off k c op, x, h, e | .es id o o', x, h, e | .mp id, x, h, e | .os id k, x, h, e => by
  simp only [HV.lt] at h
  simp only [den] at e ⊢
  rw [hm _ (blt_lt h)]; exact e
 | .fn f fs cs, x, h, e => by
  simp only [HV.lt, Bool.and_eq_true] at h
  simp only [den] at e ⊢
  split at e
  ·rename_i a b ha hb; rw [denL_lt hm h.1 ha, denL_lt hm h.2 hb]; exact e
  ·cases e
 | .agg l, x, h, e => by
  simp only [HV.lt] at h
  simp only [den] at e ⊢
  split at e
  ·rename_i a ha hb; rw [ha, denL_lt hm h hb]; exact e
  ·cases e
 | .tup l, x, h, e => by
  simp only [HV.lt] at h
  simp only [den] at e ⊢
  split at e
  ·rename_i a ha; rw [denL_lt hm h ha]; exact e
  ·cases e
theorem denL_lt (hm : ∀ id, id < n → m0 id = m id) : ∀ {l : List HV} {x : List Value}, HV.ltL n l = true → denL ρ m l = some x → denL ρ m0 l = some x
 | [], x, _, e => by simpa only [denL] using e
 | v :: l, x, h, e => by
  simp only [HV.ltL, Bool.and_eq_true] at h
  simp only [denL] at e ⊢
  split at e
  ·rename_i a b ha hb; rw [den_lt hm h.1 ha, denL_lt hm h.2 hb]; exact e
  ·cases e
end
end
def Mp.cut (m : Mp) (n : Nat) : Mp := fun id => if id < n then m id else none
theorem Mp.cut_lt (m : Mp) {n id : Nat} (h : id < n) : m.cut n id = m id := if_pos h
theorem Mp.cut_dom {m : Mp} {n id : Nat} (h : m.cut n id ≠ none) : id < n := by
 unfold Mp.cut at h
 split at h
 ·assumption
 ·exact absurd rfl h
theorem Mp.cut_some {m : Mp} {n id : Nat} {q : Nat × Nat} (h : m.cut n id = some q) : m id = some q := by
 unfold Mp.cut at h
 split at h
 ·exact h
 ·cases h
structure RO (P : Program) (ρ : En) (l : List (Nat × Ob)) (m : Mp) (w : World) : Prop where
 objs : ∀ i o, preL l i = some o → OR P ρ m w i o ∧ ∃ el cs, o = .ro el cs
 inj : ∀ i j o o' q q', i ≠ j → preL l i = some o → preL l j = some o' → m i = some q → m j = some q' → q.1 ≠ q'.1
section
variable {P : Program} {ρ : En} {l : List (Nat × Ob)} {m m' : Mp} {w w' : World}
theorem or_base {i el : Nat} {cs : List HV} {x : World} (h : OR P ρ m w i (.ro el cs)) : OR P { ρ with base := x } m w i (.ro el cs) := by
 obtain ⟨b, s, vs, post, fr, h1, h2, h3, h4⟩ := h
 exact ⟨b, s, vs, post, fr, h1, by rw [denL_base]; exact h2, h3, h4⟩
theorem or_unbase {i el : Nat} {cs : List HV} {x : World} (h : OR P { ρ with base := x } m w i (.ro el cs)) : OR P ρ m w i (.ro el cs) := by
 obtain ⟨b, s, vs, post, fr, h1, h2, h3, h4⟩ := h
 exact ⟨b, s, vs, post, fr, h1, by rw [denL_base] at h2; exact h2, h3, h4⟩
theorem RO.hrep (h : RO P ρ l m w) : HRep P { ρ with base := w } (preL l) m w where
 objs i o hi := by
  obtain ⟨h1, el, cs, rfl⟩ := h.objs i o hi
  exact or_base h1
 inj i j o o' q q' hne hi hj := h.inj i j o o' q q' hne hi hj
 keep := Below.refl _ _
 off i o q hi hf := by
  obtain ⟨_, el, cs, rfl⟩ := h.objs i o hi
  cases hf
theorem RO.keep (h : RO P ρ l m w) (hm : m.le m') (hw : ∀ i o b s, preL l i = some o → m i = some (b, s) → w'.heap[b]? = w.heap[b]?) : RO P ρ l m' w' where
 objs i o hi := ⟨(h.objs i o hi).1.mono hm fun q hq => hw i o q.1 q.2 hi hq, (h.objs i o hi).2⟩
 inj i j o o' q q' hne hi hj h1 h2 := by
  obtain ⟨q0, x0, e0, _⟩ := (h.objs i o hi).1.block
  obtain ⟨q1, x1, e1, _⟩ := (h.objs j o' hj).1.block
  have := h.inj i j o o' q0 q1 hne hi hj e0 e1
  rw [hm _ _ e0] at h1; rw [hm _ _ e1] at h2
  cases h1; cases h2; exact this
theorem RO.below (h : RO P ρ l m w) (hb : Below w.heap.size w w') : RO P ρ l m w' :=
 h.keep (Mp.le_refl m) fun i o b s hi hm => by
  obtain ⟨q, x, e0, e1⟩ := (h.objs i o hi).1.block
  rw [hm] at e0; cases e0
  exact hb.block b (Array.getElem?_eq_some_iff.1 e1).1
theorem RO.cut (h : RO P ρ l m w) {n : Nat} (hl : ∀ i o, preL l i = some o → i < n ∧ ∀ el cs, o = .ro el cs → HV.ltL n cs = true) : RO P ρ l (m.cut n) w where
 objs i o hi := by
  obtain ⟨h1, el, cs, rfl⟩ := h.objs i o hi
  obtain ⟨b, s, vs, post, fr, e1, e2, e3, e4⟩ := h1
  have := hl i _ hi
  exact ⟨⟨b, s, vs, post, fr, by rw [Mp.cut_lt m this.1]; exact e1, denL_lt (fun id hid => Mp.cut_lt m hid) (this.2 _ _ rfl) e2, e3, e4⟩, el, cs, rfl⟩
 inj i j o o' q q' hne hi hj h1 h2 := h.inj i j o o' q q' hne hi hj (Mp.cut_some h1) (Mp.cut_some h2)
theorem ro_of {H : Hp} {x : World} (h : HRep P { ρ with base := x } H m w) (hl : ∀ i o, preL l i = some o → ∃ el cs, o = .ro el cs ∧ (H i = some (.ro el cs) ∨ ∃ op, H i = some (.cells el cs op))) : RO P ρ l m w where
 objs i o hi := by
  obtain ⟨el, cs, rfl, h1⟩ := hl i o hi
  refine ⟨?_, el, cs, rfl⟩
  rcases h1 with h1 | ⟨op, h1⟩
  ·exact or_unbase (h.objs i _ h1)
  ·obtain ⟨b, s, vs, post, e1, e2, e3, e4, _⟩ := h.objs i _ h1
   exact ⟨b, s, vs, post, _, e1, by rw [denL_base] at e2; exact e2, e3, e4⟩
 inj i j o o' q q' hne hi hj := by
  obtain ⟨el, cs, rfl, h1⟩ := hl i o hi
  obtain ⟨el', cs', rfl, h2⟩ := hl j o' hj
  obtain ⟨y1, h1⟩ : ∃ y, H i = some y := h1.elim (fun h => ⟨_, h⟩) fun ⟨_, h⟩ => ⟨_, h⟩
  obtain ⟨y2, h2⟩ : ∃ y, H j = some y := h2.elim (fun h => ⟨_, h⟩) fun ⟨_, h⟩ => ⟨_, h⟩
  exact h.inj i j _ _ q q' hne h1 h2
theorem st_ro (h : RO P ρ l m w) {k N : Nat} {S : Tr HV} {a : Act} (hk : ∀ id, m id ≠ none → id < k) (hs : ∀ j v, S.get j = some v → den ρ m v = some (a.tmps.getD j undef)) (hd : a.defers = []) (hN : a.tmps.size = N) :
  StOk P { ρ with base := w } ⟨N, fun id => id < k, k, m, fun _ => none, preL l, ([], 1000000000)⟩ { slots := S, st := .lf, ca := .lf, next := k } a w := by
 refine ⟨⟨m, Mp.le_refl m, ⟨?_, fun j v hj => by rw [den_base]; exact hs j v hj, hd, hN⟩, fun id hid => .inl (hk id hid)⟩, Nat.le_refl _⟩
 have e : GS.over { slots := S, st := .lf, ca := .lf, next := k } (preL l) = preL l := by
  funext i
  simp only [GS.over, find_eq, Tr.get_lf]
 show HRep P { ρ with base := w } (GS.over { slots := S, st := .lf, ca := .lf, next := k } (preL l)) m w
 rw [e]; exact h.hrep
theorem bs_ro {k N : Nat} {H : Hp} {y : Nat} : BsOk ⟨N, fun id => id < k, k, m, fun _ => none, H, ([], y)⟩ := ⟨fun j h1 _ h3 => by simp only at h1 h3; omega⟩
theorem isSomeB_eq : ∀ {x : Option (List Wr × Nat)}, isSomeB x = true → x = some ([], 1000000000)
 | some ([], n), h => by rw [Nat.eq_of_beq_eq_true (show Nat.beq n 1000000000 = true from h)]
 | none, h | some (_ :: _, _), h => by cases h
theorem endB_ok {b : Bool} {G : GS} {S : Sl} {H : Hp} {r : List Wr × Nat} (h : (endB b G).run S H = some r) : b = true ∧ G.next ≤ 1000000000 := by
 obtain ⟨h1, _⟩ := run_bif h
 simp only [Bool.and_eq_true] at h1
 exact ⟨h1.2, Nat.le_of_ble_eq_true h1.1⟩
theorem slB_ok {G : GS} {k : Nat} {v : HV} (h : slB G k v = true) : G.slots.get k = some v := by
 unfold slB at h
 split at h
 ·rename_i u hu; rw [hu, eqB_ok h]
 ·cases h
theorem obB_ok {G : GS} {id : Nat} {o : Ob} (h : obB G id o = true) (H : Hp) : G.over H id = some o := by
 unfold obB at h
 split at h
 ·rename_i o' ho
  rw [ob_eq h]
  simp only [GS.over, ho]
 ·cases h
theorem noB_ok {G : GS} {id : Nat} (h : noB G id = true) (H : Hp) : G.over H id = H id := by
 unfold noB at h
 cases hf : G.find id with
 | none => simp only [GS.over, hf]
 | some o => rw [hf] at h; cases h
theorem isNm_ok {e : XE} (h : isNm e = true) : e = .normal := by cases e <;> first | rfl | cases h
theorem rngOk_base {R : Rng} {x : World} (h : RngOk ρ R) (hb : Below ρ.base.heap.size ρ.base x) : RngOk { ρ with base := x } R where
 rng := h.rng
 ne := h.ne
 lt := h.lt
 rm := h.rm
 nl := h.nl
 ml := h.ml
 kl j y hj := by
  obtain ⟨A, n, c, h1, h2, h3⟩ := h.kl j y hj
  exact ⟨A, n, c, h1, by rw [h2]; cases y <;> rfl, h3⟩
 ks := h.ks
 kb j i y hj := by
  obtain ⟨b, o, n, c, arr, el, fr, h1, h2, h3, h4⟩ := h.kb j i y hj
  have e1 : IV.ev { ρ with base := x } i = IV.ev ρ i := by cases i <;> rfl
  have e2 : IV.ev { ρ with base := x } y = IV.ev ρ y := by cases y <;> rfl
  refine ⟨b, o, n, c, arr, el, fr, h1, (hb.block b (Array.getElem?_eq_some_iff.1 h2).1).trans h2, ?_⟩
  rw [e1, e2]; exact ⟨h3, h4⟩
theorem entV_base {e : EntV} {x : World} (h : EntVOk P ρ e) : EntVOk P { ρ with base := x } e := by
 refine ⟨h.1, fun w vals hargs => ?_⟩
 rw [denL_base] at hargs
 exact (h.2 w vals hargs).mono fun y w' ⟨v, h1, h2, h3⟩ => ⟨v, h1, by rw [den_base]; exact h2, h3⟩
end
end Go.Proofs.YtehbbcdhahnkgaaGreat.Hm
