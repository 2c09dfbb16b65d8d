/- The ghost machine and the machine: what keeps the states alike. -/
import Derived.Test.YtehbbcdhahnkgaaGreatGmRel
set_option linter.unusedVariables false
set_option linter.unusedSimpArgs false
namespace Go.Proofs.YtehbbcdhahnkgaaGreat
open Go
variable {E : Env} {N : Nat} {U : Nat → Prop} {ob : Nat → Value} {Z : Nat → Prop} {s : GS} {a : Act} {w : World}

theorem RepAt.mono (h : RepAt E N U ob Z s a w) {U' : Nat → Prop} (hu : ∀ i, U i → U' i) : RepAt E N U' ob Z s a w where
 defers := h.defers
 size := h.size
 kept := h.kept
 zlt := h.zlt
 z0 := h.z0
 slots n g hl := let ⟨x, y, z⟩ := h.slots n g hl; ⟨x, y, z.mono hu⟩
 objs i o hl := let ⟨x, y, z⟩ := h.objs i o hl; ⟨hu i x, y, z.mono hu⟩
 own := h.own
 apart := h.apart
 globs := h.globs
 pins p hp := ⟨(h.pins p hp).1, hu _ (h.pins p hp).2⟩

theorem RepAt.congr (h : RepAt E N U ob Z s a w) {s' : GS} (h1 : ∀ n, look n s'.slots = look n s.slots) (h2 : ∀ n, look n s'.objs = look n s.objs) : RepAt E N U ob Z s' a w where
 defers := h.defers
 size := h.size
 kept := h.kept
 zlt := h.zlt
 z0 := h.z0
 slots n g hl := h.slots n g ((h1 n).symm.trans hl)
 objs i o hl := h.objs i o ((h2 i).symm.trans hl)
 own i o hl := h.own i o ((h2 i).symm.trans hl)
 apart i j o o' hne hi hj := h.apart i j o o' hne ((h2 i).symm.trans hi) ((h2 j).symm.trans hj)
 globs := h.globs
 pins := h.pins

theorem put_size (a : Act) (d : Option Tmp) (v : Value) : (a.put d v).tmps.size = a.tmps.size := by cases d <;> simp [Act.put]
theorem put_defers' (a : Act) (d : Option Tmp) (v : Value) : (a.put d v).defers = a.defers := by cases d <;> simp [Act.put]
theorem put_same (a : Act) {d : Tmp} (v : Value) (h : d < a.tmps.size) : (a.put (some d) v).tmps.getD d undef = v := by simp [Act.put, h]
theorem put_ne (a : Act) {d n : Tmp} (v : Value) (h : n ≠ d) : (a.put (some d) v).tmps.getD n undef = a.tmps.getD n undef := by
 simp [Act.put, Array.getElem?_setIfInBounds_ne (Ne.symm h)]

theorem RepAt.slot (h : RepAt E N U ob Z s a w) {d : Nat} (hd : d < N) {g : GV} {v : Value} (hv : VR w Z ob g v) (hi : g.ids U) : RepAt E N U ob Z (s.put (.slot d (some g))) (a.put (some d) v) w where
 defers := (put_defers' a _ v).trans h.defers
 size := (put_size a _ v).trans h.size
 kept := h.kept
 zlt := h.zlt
 z0 := h.z0
 slots n g' hl := by
  by_cases e : n = d
  ·subst e
   simp only [GS.put, look_lput_same] at hl
   cases hl
   exact ⟨hd, by rw [put_same a v (h.size ▸ hd)]; exact hv, hi⟩
  ·simp only [GS.put, look_lput_ne e] at hl
   rw [put_ne a v e]
   exact h.slots n g' hl
 objs := h.objs
 own := h.own
 apart := h.apart
 globs := h.globs
 pins := h.pins
theorem RepAt.noSlot (h : RepAt E N U ob Z s a w) (d : Nat) (v : Value) : RepAt E N U ob Z (s.put (.slot d none)) (a.put (some d) v) w where
 defers := (put_defers' a _ v).trans h.defers
 size := (put_size a _ v).trans h.size
 kept := h.kept
 zlt := h.zlt
 z0 := h.z0
 slots n g' hl := by
  by_cases e : n = d
  ·subst e
   simp only [GS.put, look_ldel_same] at hl
   cases hl
  ·simp only [GS.put, look_ldel_ne e] at hl
   rw [put_ne a v e]
   exact h.slots n g' hl
 objs := h.objs
 own := h.own
 apart := h.apart
 globs := h.globs
 pins := h.pins

theorem OR.keep {w w' : World} {Z Z' : Nat → Prop} {ob ob' : Nat → Value} {M : Nat → Prop} {i : Nat} {o : Ob} (hk : Kept M w w') (hzm : ∀ b, Z b → ¬ M b) (hz : ∀ b, Z b → Z' b) (ho : ∀ i, U i → ob' i = ob i) (hi : U i) (hids : o.ids U)
  (hb : ∀ b, blk (ob i) = some b → ¬ M b) (h : OR w Z ob i o) : OR w' Z' ob' i o := by
 have hs : Same Z w w' := hk.same hzm
 cases o with
 | row e t xs own =>
  obtain ⟨uss, h1, h2, h3⟩ := h
  refine ⟨uss, h1.mono fun _ _ hd => hd.mono hs hz, ?_, fun e b hbb => hz b (h3 e b (by rw [← ho i hi]; exact hbb))⟩
  rw [ho i hi]
  refine ⟨h2.1, ?_⟩
  rcases h2.2 with hn | ⟨g, cap, cur, hv, hg0, hg, rest⟩
  ·exact .inl hn
  ·refine .inr ⟨g, cap, cur, hv, hg0, ?_, rest⟩
   rw [hk.block g (Array.getElem?_eq_some_iff.1 hg).1 (hb g (by rw [hv]; rfl))]
   exact hg
 | box e t x own =>
  obtain ⟨g, vs, h1, h2, h3, h4⟩ := h
  refine ⟨g, vs, by rw [ho i hi]; exact h1, h2.mono hs hz, ?_, fun e => hz g (h4 e)⟩
  rw [hk.block g (Array.getElem?_eq_some_iff.1 h3).1 (hb g (by rw [h1]; rfl))]
  exact h3
 | vbox e v =>
  obtain ⟨g, u, h1, h2, h3, h4⟩ := h
  refine ⟨g, u, by rw [ho i hi]; exact h1, h2.mono hs hz ho hids, ?_, h4⟩
  rw [hk.block g (Array.getElem?_eq_some_iff.1 h3).1 (hb g (by rw [h1]; rfl))]
  exact h3
 | sbox e t x f v =>
  obtain ⟨g, vs, u, h1, h2, h3, h4, h5, h6⟩ := h
  refine ⟨g, vs, u, by rw [ho i hi]; exact h1, h2.mono hs hz, h3.mono hs hz ho hids, ?_, h5, h6⟩
  rw [hk.block g (Array.getElem?_eq_some_iff.1 h4).1 (hb g (by rw [h1]; rfl))]
  exact h4
 | hrow e t xs i f r =>
  obtain ⟨uss, h1, h0, h2, h5, h6⟩ := h
  refine ⟨uss, h1.mono fun _ _ hd => hd.mono hs hz, h0, ?_, by rw [ho r hids]; exact h5, h6⟩
  rw [ho _ hi, ho r hids]
  refine ⟨h2.1, ?_⟩
  rcases h2.2 with hn | ⟨g, cap, cur, hv, hg0, hg, rest⟩
  ·exact .inl hn
  ·refine .inr ⟨g, cap, cur, hv, hg0, ?_, rest⟩
   rw [hk.block g (Array.getElem?_eq_some_iff.1 hg).1 (hb g (by rw [hv]; rfl))]
   exact hg
 | raw c =>
  intro g hg
  rw [ho i hi] at hg
  rw [hk.block g (Array.getElem?_eq_some_iff.1 (h g hg)).1 (hb g hg)]
  exact h g hg

theorem OR.block_lt {i : Nat} {o : Ob} (h : OR w Z ob i o) : ∀ b, blk (ob i) = some b → b < w.heap.size := by
 intro b hb
 cases o with
 | row e t xs own =>
  obtain ⟨uss, _, h2, _⟩ := h
  rcases h2.2 with ⟨hn, _⟩ | ⟨g, cap, cur, hv, _, hg, _⟩
  ·rw [hn] at hb; cases hb
  ·rw [hv] at hb; cases hb; exact (Array.getElem?_eq_some_iff.1 hg).1
 | box e t x own => obtain ⟨g, vs, h1, _, h3, _⟩ := h; rw [h1] at hb; cases hb; exact (Array.getElem?_eq_some_iff.1 h3).1
 | vbox e v => obtain ⟨g, u, h1, _, h3, _⟩ := h; rw [h1] at hb; cases hb; exact (Array.getElem?_eq_some_iff.1 h3).1
 | sbox e t x f v => obtain ⟨g, vs, u, h1, _, _, h4, _⟩ := h; rw [h1] at hb; cases hb; exact (Array.getElem?_eq_some_iff.1 h4).1
 | hrow e t xs i f r =>
  obtain ⟨uss, _, _, h2, _⟩ := h
  rcases h2.2 with ⟨hn, _⟩ | ⟨g, cap, cur, hv, _, hg, _⟩
  ·rw [hn] at hb; cases hb
  ·rw [hv] at hb; cases hb; exact (Array.getElem?_eq_some_iff.1 hg).1
 | raw c => exact (Array.getElem?_eq_some_iff.1 (h b hb)).1
theorem OR.block_Z {i : Nat} {o : Ob} (h : OR w Z ob i o) (hown : o.own = false) : ∀ b, blk (ob i) = some b → Z b := by
 intro b hb
 cases o with
 | row e t xs own => obtain ⟨uss, _, h2, h3⟩ := h; exact h3 hown b hb
 | box e t x own => obtain ⟨g, vs, h1, _, h3, h4⟩ := h; rw [h1] at hb; cases hb; exact h4 hown
 | vbox e v => simp [Ob.own] at hown
 | sbox e t x f v => simp [Ob.own] at hown
 | hrow e t xs i f r => simp [Ob.own] at hown
 | raw c => simp [Ob.own] at hown

theorem RepAt.world (h : RepAt E N U ob Z s a w) {w' : World} {M : Nat → Prop} (hk : Kept M w w') (hzm : ∀ b, Z b → ¬ M b) (hm : ∀ b, M b → E.M b ∨ E.w0.heap.size ≤ b)
  (hb : ∀ i o, look i s.objs = some o → ∀ b, blk (ob i) = some b → ¬ M b) : RepAt E N U ob Z s a w' where
 defers := h.defers
 size := h.size
 kept := h.kept.trans hk hm
 zlt b hZ := Nat.lt_of_lt_of_le (h.zlt b hZ) hk.size
 z0 := h.z0
 slots n g hl := let ⟨x, y, z⟩ := h.slots n g hl; ⟨x, y.mono (hk.same hzm) (fun _ h => h) (fun _ _ => rfl) z, z⟩
 objs i o hl := let ⟨x, y, z⟩ := h.objs i o hl; ⟨x, y.keep hk hzm (fun _ h => h) (fun _ _ => rfl) x z (hb i o hl), z⟩
 own := h.own
 apart := h.apart
 globs g d hl := (h.globs g d hl).mono (U := fun _ => True) (hk.same hzm) (fun _ h => h) (fun _ _ => rfl) trivial
 pins := h.pins

theorem RepAt.noObj (h : RepAt E N U ob Z s a w) (i : Nat) : RepAt E N U ob Z (s.put (.obj i none)) a w where
 defers := h.defers
 size := h.size
 kept := h.kept
 zlt := h.zlt
 z0 := h.z0
 slots := h.slots
 objs j o hl := by
  by_cases e : j = i
  ·subst e; simp only [GS.put, look_ldel_same] at hl; cases hl
  ·simp only [GS.put, look_ldel_ne e] at hl; exact h.objs j o hl
 own j o hl := by
  by_cases e : j = i
  ·subst e; simp only [GS.put, look_ldel_same] at hl; cases hl
  ·simp only [GS.put, look_ldel_ne e] at hl; exact h.own j o hl
 apart j k o o' hne hj hk := by
  have e1 : j ≠ i := fun e => by subst e; simp only [GS.put, look_ldel_same] at hj; cases hj
  have e2 : k ≠ i := fun e => by subst e; simp only [GS.put, look_ldel_same] at hk; cases hk
  simp only [GS.put, look_ldel_ne e1] at hj
  simp only [GS.put, look_ldel_ne e2] at hk
  exact h.apart j k o o' hne hj hk
 globs := h.globs
 pins := h.pins

theorem RepAt.setObj (h : RepAt E N U ob Z s a w) {i : Nat} {o o' : Ob} (hl : look i s.objs = some o) (hown : o.own = true) {w' : World} (hk : Kept (fun b => blk (ob i) = some b) w w')
  (ho' : OR w' Z ob i o') (hids : o'.ids U) (hown' : o'.own = true) : RepAt E N U ob Z (s.put (.obj i (some o'))) a w' := by
 have hzm : ∀ b, Z b → ¬ blk (ob i) = some b := fun b hZ e => (h.own i o hl hown b e).1 hZ
 have hm : ∀ b, blk (ob i) = some b → E.M b ∨ E.w0.heap.size ≤ b := fun b e => (h.own i o hl hown b e).2
 have hb : ∀ j o2, look j (s.put (.obj i none)).objs = some o2 → ∀ b, blk (ob j) = some b → ¬ blk (ob i) = some b := by
  intro j o2 hj b hbj hbi
  have e1 : j ≠ i := fun e => by subst e; simp only [GS.put, look_ldel_same] at hj; cases hj
  simp only [GS.put, look_ldel_ne e1] at hj
  cases ho2 : o2.own with
  | true => exact h.apart j i o2 o e1 hj hl ho2 hown b hbj hbi
  | false => exact hzm b ((h.objs j o2 hj).2.1.block_Z ho2 b hbj) hbi
 have h2 := (h.noObj i).world hk hzm hm hb
 refine { h2 with objs := ?_, own := ?_, apart := ?_ }
 ·intro j o2 hj
  by_cases e : j = i
  ·subst e; simp only [GS.put, look_lput_same] at hj; cases hj; exact ⟨(h.objs j o hl).1, ho', hids⟩
  ·simp only [GS.put, look_lput_ne e] at hj; exact h2.objs j o2 (by simp only [GS.put, look_ldel_ne e]; exact hj)
 ·intro j o2 hj ho2
  by_cases e : j = i
  ·subst e; exact h.own j o hl hown
  ·simp only [GS.put, look_lput_ne e] at hj; exact h2.own j o2 (by simp only [GS.put, look_ldel_ne e]; exact hj) ho2
 ·intro j k o2 o3 hne hj hk' ho2 ho3
  have at_ : ∀ m x, look m (s.put (.obj i (some o'))).objs = some x → x.own = true → ∃ y, look m s.objs = some y ∧ y.own = true := by
   intro m x hx hxo
   by_cases e : m = i
   ·subst e; exact ⟨o, hl, hown⟩
   ·simp only [GS.put, look_lput_ne e] at hx; exact ⟨x, hx, hxo⟩
  obtain ⟨y, hy, hyo⟩ := at_ j o2 hj ho2
  obtain ⟨z, hz, hzo⟩ := at_ k o3 hk' ho3
  exact h.apart j k y z hne hy hz hyo hzo

theorem RepAt.newObj (h : RepAt E N U ob Z s a w) {i : Nat} (hi : ¬ U i) {v : Value} {o : Ob} (ho : OR w Z (fun j => if j = i then v else ob j) i o) (hids : o.ids U)
  (hb : o.own = true → ∀ b, blk v = some b → ¬ Z b ∧ (E.M b ∨ E.w0.heap.size ≤ b) ∧ ∀ j o2, look j s.objs = some o2 → o2.own = true → blk (ob j) ≠ some b) :
  RepAt E N (fun j => U j ∨ j = i) (fun j => if j = i then v else ob j) Z (s.put (.obj i (some o))) a w := by
 have hob : ∀ j, U j → (if j = i then v else ob j) = ob j := fun j hj => if_neg (fun e : j = i => hi (e ▸ hj))
 have hU : ∀ j, U j → (U j ∨ j = i) := fun _ h => .inl h
 have hlook : ∀ j o2, look j s.objs = some o2 → j ≠ i := fun j o2 hj e => hi (e ▸ (h.objs j o2 hj).1)
 refine { defers := h.defers, size := h.size, kept := h.kept, zlt := h.zlt, z0 := h.z0, slots := ?_, objs := ?_, own := ?_, apart := ?_, globs := ?_, pins := ?_ }
 ·intro n g hl
  obtain ⟨x, y, z⟩ := h.slots n g hl
  exact ⟨x, y.mono (Same.refl _ _) (fun _ h => h) hob z, z.mono hU⟩
 ·intro j o2 hj
  by_cases e : j = i
  ·subst e; simp only [GS.put, look_lput_same] at hj; cases hj; exact ⟨.inr rfl, ho, hids.mono hU⟩
  ·simp only [GS.put, look_lput_ne e] at hj
   obtain ⟨x, y, z⟩ := h.objs j o2 hj
   exact ⟨.inl x, y.keep (M := fun _ => False) (Kept.refl _ _) (fun _ _ h => h) (fun _ h => h) hob x z (fun _ _ h => h), z.mono hU⟩
 ·intro j o2 hj ho2 b hbj
  by_cases e : j = i
  ·subst e; simp only [GS.put, look_lput_same] at hj; cases hj
   simp only [if_true] at hbj
   exact ⟨(hb ho2 b hbj).1, (hb ho2 b hbj).2.1⟩
  ·simp only [GS.put, look_lput_ne e] at hj
   simp only [if_neg e] at hbj
   exact h.own j o2 hj ho2 b hbj
 ·intro j k o2 o3 hne hj hk ho2 ho3 b hbj hbk
  by_cases e : j = i
  ·subst e
   have e2 : k ≠ j := fun e => hne e.symm
   simp only [GS.put, look_lput_same] at hj; cases hj
   simp only [GS.put, look_lput_ne e2] at hk
   simp only [if_true] at hbj
   simp only [if_neg e2] at hbk
   exact (hb ho2 b hbj).2.2 k o3 hk ho3 hbk
  ·simp only [GS.put, look_lput_ne e] at hj
   simp only [if_neg e] at hbj
   by_cases e2 : k = i
   ·subst e2
    simp only [GS.put, look_lput_same] at hk; cases hk
    simp only [if_true] at hbk
    exact (hb ho3 b hbk).2.2 j o2 hj ho2 hbj
   ·simp only [GS.put, look_lput_ne e2] at hk
    simp only [if_neg e2] at hbk
    exact h.apart j k o2 o3 hne hj hk ho2 ho3 b hbj hbk
 ·intro g d hl
  exact (h.globs g d hl).mono (U := fun _ => False) (Same.refl _ _) (fun _ h => h) (fun _ h => h.elim) (by simp [SV.ids])
 ·intro p hp
  exact ⟨(hob _ (h.pins p hp).2).trans (h.pins p hp).1, .inl (h.pins p hp).2⟩

theorem RepAt.freeze (h : RepAt E N U ob Z s a w) (Y : Nat → Prop) (hlt : ∀ b, Y b → b < w.heap.size) (hY : ∀ b, Y b → b < E.w0.heap.size → E.Z0 b ∨ E.M b)
  (hown : ∀ i o, look i s.objs = some o → o.own = true → ∀ b, blk (ob i) = some b → ¬ Y b) : RepAt E N U ob (fun b => Z b ∨ Y b) s a w where
 defers := h.defers
 size := h.size
 kept := h.kept
 zlt b hb := hb.elim (h.zlt b) (hlt b)
 z0 b hb hl := hb.elim (fun hb => h.z0 b hb hl) (fun hb => hY b hb hl)
 slots n g hl := let ⟨x, y, z⟩ := h.slots n g hl; ⟨x, y.mono (Same.refl _ _) (fun _ h => .inl h) (fun _ _ => rfl) z, z⟩
 objs i o hl := let ⟨x, y, z⟩ := h.objs i o hl; ⟨x, y.keep (M := fun _ => False) (Kept.refl _ _) (fun _ _ h => h) (fun _ h => .inl h) (fun _ _ => rfl) x z (fun _ _ h => h), z⟩
 own i o hl ho b hb := ⟨fun hz => hz.elim (h.own i o hl ho b hb).1 (hown i o hl ho b hb), (h.own i o hl ho b hb).2⟩
 apart := h.apart
 globs g d hl := (h.globs g d hl).mono (U := fun _ => True) (Same.refl _ _) (fun _ h => .inl h) (fun _ _ => rfl) trivial
 pins := h.pins

def Ob.cold : Ob → Ob
 | .row e t xs _ => .row e t xs false
 | .box e t x _ => .box e t x false
 | .vbox e v => .vbox e v
 | .sbox e t x f v => .sbox e t x f v
 | .hrow e t xs i f r => .hrow e t xs i f r
 | .raw c => .raw c
theorem RepAt.cold (h : RepAt E N U ob Z s a w) {i : Nat} {o : Ob} (hl : look i s.objs = some o) (hv : o.cold.own = false) :
  RepAt E N U ob (fun b => Z b ∨ blk (ob i) = some b) (s.put (.obj i (some o.cold))) a w := by
 cases ho : o.own with
 | false =>
  have hc : o.cold = o := by cases o <;> simp_all [Ob.cold, Ob.own]
  rw [hc]
  have hz := (h.objs i o hl).2.1.block_Z ho
  have h2 := h.freeze (fun b => blk (ob i) = some b) (fun b hb => h.zlt b (hz b hb)) (fun b hb => h.z0 b (hz b hb)) (fun j o2 hj ho2 b hbj hbi => (h.own j o2 hj ho2 b hbj).1 (hz b hbi))
  refine h2.congr (fun _ => rfl) fun j => ?_
  by_cases e : j = i
  ·subst e; simp only [GS.put, look_lput_same]; exact hl.symm
  ·simp only [GS.put, look_lput_ne e]
 | true =>
  have h2 := (h.noObj i).freeze (fun b => blk (ob i) = some b) (fun b hb => (h.objs i o hl).2.1.block_lt b hb) (fun b hb hlt => .inr ((h.own i o hl ho b hb).2.resolve_right (by omega))) (by
   intro j o2 hj ho2 b hbj hbi
   have e1 : j ≠ i := fun e => by subst e; simp only [GS.put, look_ldel_same] at hj; cases hj
   simp only [GS.put, look_ldel_ne e1] at hj
   exact h.apart j i o2 o e1 hj hl ho2 ho b hbj hbi)
  refine { h2 with objs := ?_, own := ?_, apart := ?_ }
  ·intro j o2 hj
   by_cases e : j = i
   ·subst e
    simp only [GS.put, look_lput_same] at hj; cases hj
    obtain ⟨x, y, z⟩ := h.objs j o hl
    refine ⟨x, ?_, by cases o <;> first | trivial | (simp [Ob.cold, Ob.own] at hv)⟩
    have y' := y.keep (Z' := fun b => Z b ∨ blk (ob j) = some b) (M := fun _ => False) (Kept.refl _ _) (fun _ _ h => h) (fun _ h => .inl h) (fun _ _ => rfl) x z (fun _ _ h => h)
    cases o with
    | row e t xs own => obtain ⟨uss, h1, h3, _⟩ := y'; exact ⟨uss, h1, h3, fun _ b hb => .inr hb⟩
    | box e t q own => obtain ⟨g, vs, h1, h3, h4, _⟩ := y'; exact ⟨g, vs, h1, h3, h4, fun _ => .inr (by rw [h1]; rfl)⟩
    | vbox e v => simp [Ob.cold, Ob.own] at hv
    | sbox e t x f v => simp [Ob.cold, Ob.own] at hv
    | hrow e t xs i f r => simp [Ob.cold, Ob.own] at hv
    | raw c => simp [Ob.cold, Ob.own] at hv
   ·simp only [GS.put, look_lput_ne e] at hj; exact h2.objs j o2 (by simp only [GS.put, look_ldel_ne e]; exact hj)
  ·intro j o2 hj ho2
   by_cases e : j = i
   ·subst e; simp only [GS.put, look_lput_same] at hj; cases hj; rw [hv] at ho2; cases ho2
   ·simp only [GS.put, look_lput_ne e] at hj; exact h2.own j o2 (by simp only [GS.put, look_ldel_ne e]; exact hj) ho2
  ·intro j k o2 o3 hne hj hk ho2 ho3
   have at_ : ∀ m x, look m (s.put (.obj i (some o.cold))).objs = some x → x.own = true → look m s.objs = some x := by
    intro m x hx hxo
    by_cases e : m = i
    ·subst e; simp only [GS.put, look_lput_same] at hx; cases hx; rw [hv] at hxo; cases hxo
    ·simpa only [GS.put, look_lput_ne e] using hx
   exact h.apart j k o2 o3 hne (at_ j o2 hj ho2) (at_ k o3 hk ho3) ho2 ho3
end Go.Proofs.YtehbbcdhahnkgaaGreat
