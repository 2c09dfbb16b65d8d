/- The ghost machine and the machine: slices. -/
import Derived.Test.YtehbbcdhahnkgaaGreatGmOpE
import Derived.Lib.AppendZerosOnto
import Derived.Lib.AppendStr
set_option linter.unusedVariables false
set_option linter.unusedSimpArgs false
namespace Go.Proofs.YtehbbcdhahnkgaaGreat
open Go
section
variable {P : Program} {Γ : Ctx} {E : Env} {N : Nat} {U : Nat → Prop} {ob : Nat → Value} {Z : Nat → Prop} {s : GS} {a : Act} {w : World} {ws : List Wr} {o : Oper} {fresh : Nat} {Q : Exit → Act → World → Prop}

def LA (w : World) (Z : Nat → Prop) (v : Value) (t : Ty) (xs : List t.den) : Prop :=
 ∃ A c, v = .slice A xs.length c ∧ xs.length ≤ c ∧ c ≤ maxLen ∧ (0 < xs.length → ∃ b off uss, A = some ⟨b, off, none⟩ ∧ b < w.heap.size ∧ All2 (DR w Z t) xs uss ∧ ∀ j u, uss.flatten[j]? = some u → w.cell? ⟨b, off + j, none⟩ = some u)
theorem LA.of_DR {t : Ty} {xs : List t.den} {v : Value} (h : DR w Z (.sl t) xs [v]) : LA w Z v t xs := by
 obtain ⟨A, c, e, h1, h2, h3⟩ := h
 cases e
 exact ⟨A, c, rfl, h1, h2, fun hp => let ⟨b, off, uss, q1, _, q3, q4, q5⟩ := h3 hp; ⟨b, off, uss, q1, q3, q4, q5⟩⟩
theorem LA.of_OR {i e : Nat} {t : Ty} {xs : List t.den} {own : Bool} (h : OR w Z ob i (.row e t xs own)) : LA w Z (ob i) t xs := by
 obtain ⟨uss, h1, h2, _⟩ := h
 rcases h2.2 with ⟨hv, hn⟩ | ⟨g, cap, cur, hv, _, hg, hnc, hcm, hcs, ht⟩
 ·exact ⟨none, 0, by rw [hv, hn], by omega, by simp [maxLen], fun hp => by omega⟩
 ·refine ⟨_, cap, hv, hnc, hcm, fun hp => ⟨g, 0, uss, rfl, (Array.getElem?_eq_some_iff.1 hg).1, h1, fun j u hu => ?_⟩⟩
  rw [cell_of_row w g _ _ e (0, 0) hg, ← Array.getElem?_toList, Nat.zero_add]
  rw [← ht, List.getElem?_take] at hu
  split at hu
  ·exact hu
  ·cases hu
theorem listR_ok {v : SV} {vv : Value} {t : Ty} {k : List t.den → RT} (h : RepAt E N U ob Z s a w) (hv : SR w Z ob v vv) (hr : (listR v t k).run s = some ws) :
  ∃ xs, (k xs).run s = some ws ∧ LA w Z vv t xs ∧ (∀ i, v = .row i → ∃ e own, look i s.objs = some (.row e t xs own)) := by
 unfold listR at hr
 split at hr
 ·split at hr
  ·rename_i hcast
   obtain ⟨hte, hy⟩ := tcast_some hcast
   cases hte
   simp only at hy; subst hy
   obtain ⟨vs, hd, hp⟩ := hv
   obtain ⟨x, rfl⟩ := hd.single rfl
   rw [pk_one rfl] at hp
   subst hp
   exact ⟨_, hr, LA.of_DR hd, fun i e => by cases e⟩
  ·exact run_fail hr
 ·exact ⟨[], hr, ⟨none, 0, hv, by simp, by simp [maxLen], fun hp => absurd hp (by simp)⟩, fun i e => by cases e⟩
 ·rename_i i
  replace hr := run_obj hr
  obtain ⟨o', hl, hr⟩ := hr
  split at hr
  ·split at hr
   ·rename_i hcast
    obtain ⟨hte, hy⟩ := tcast_some hcast
    cases hte
    simp only at hy; subst hy
    have hv' : vv = ob i := hv
    subst hv'
    exact ⟨_, hr, LA.of_OR (h.objs _ _ hl).2.1, fun j e => by cases e; exact ⟨_, _, hl⟩⟩
   ·exact run_fail hr
  ·exact run_fail hr
 ·rename_i i u lo hi
  replace hr := run_obj hr
  obtain ⟨o', hl, hr⟩ := hr
  split at hr
  ·split at hr
   ·rename_i hcast
    obtain ⟨hte, hy⟩ := tcast_some hcast
    cases hte
    simp only at hy; subst hy
    replace hr := run_chk hr
    obtain ⟨hc, hr⟩ := hr
    simp only [Bool.and_eq_true] at hc
    have hu := Ty.same_eq hc.2
    subst hu
    have hd0 := row_DR (h.objs _ _ hl).2.1 (Z' := fun b => Z b ∨ blk (ob i) = some b) (fun _ h => .inl h) (fun b hb => .inr hb)
    obtain ⟨A, c, e, q1, q2, q3⟩ := LA.of_DR (hv _ _ _ hd0)
    refine ⟨_, hr, ⟨A, c, e, q1, q2, fun hp => ?_⟩, fun j e => by cases e⟩
    obtain ⟨b, off, uss, r1, r2, r3, r4⟩ := q3 hp
    exact ⟨b, off, uss, r1, r2, r3.mono fun _ _ hd => hd.flat hc.1, r4⟩
   ·exact run_fail hr
  ·exact run_fail hr
 ·exact run_fail hr

theorem op_len (hT : TysOk P Γ) (h : RepAt E Γ.N U ob Z s a w) (hg : E.globs = Γ.globs) {c : Call} {x : Operand} (ho : o.op = .call c) (hc : c.callee = .builtin .len) (ha : c.args = #[x]) {t : TypeId} (hty : c.argTypes.toList = [t])
  (hr : (builtinR Γ fresh o .len [x] [t]).run s = some ws) : o.wp P a w (After E Γ.N U fresh s ws) Q := by
 simp only [builtinR] at hr
 replace hr := tyR_ok hr
 obtain ⟨ti, hl, hr⟩ := hr
 have hsh := (hT _ _ hl).shape
 replace hr := svR_ok h hg hr
 obtain ⟨v, h1, h2, hr⟩ := hr
 have hat : c.argTypes = #[t] := by apply Array.toList_inj.1; rw [hty]
 have key : ∀ n : Nat, (Builtin.len_ #[t] o.type #[a.eval x]).run P w = .ok (goInt n) w → (execOp a.eval o).run P w = .ok (.value (goInt n)) w := by
  intro n hn
  simp only [execOp, ho, resolve, hc, ha, hat, Sem.run_bind, Sem.run_pure, Result.andThen_ok, invoke, builtin, List.map_toArray, List.map_cons, List.map_nil, hn]
 have big : ∀ n : Nat, n ≤ maxLen → VR w Z ob (.sv (.data .i64 (n : Int))) (goInt n) := fun n hn => vr (sr_i64 (by omega) (by unfold maxLen at hn; omega))
 split at hr
 ·rename_i u xs
  replace hr := run_cond hr
  obtain ⟨hs, hr⟩ := hr
  rw [← Ty.same_eq hs] at hsh
  obtain ⟨vs, hd, hp⟩ := h1
  obtain ⟨y, rfl⟩ := hd.single rfl
  rw [pk_one rfl] at hp
  obtain ⟨A, cc, hv, h3, h4, _⟩ := LA.of_DR hd
  subst hp
  exact fin_pure h (key _ (by rw [hv]; simp [Builtin.len_, run_underlying hsh.1])) (big _ (Nat.le_trans h3 h4)) trivial hr
 ·rename_i xs
  replace hr := run_cond hr
  obtain ⟨hs, hr⟩ := hr
  rw [← Ty.same_eq hs] at hsh
  obtain ⟨hv, h3⟩ := h1.str
  have hsz : (⟨xs.toArray⟩ : ByteArray).size = List.length xs := by show xs.toArray.size = _; simp
  exact fin_pure h (key _ (by rw [hv]; simp [Builtin.len_, run_underlying hsh, hsz])) (big _ h3) trivial hr
 ·rename_i n u xs
  replace hr := run_cond hr
  obtain ⟨hs, hr⟩ := hr
  simp only [Bool.and_eq_true] at hs
  rw [← Ty.same_eq hs.1] at hsh
  exact fin_pure h (key n (by simp [Builtin.len_, run_underlying hsh.1])) (big _ (by have := Nat.le_of_ble_eq_true hs.2; unfold maxLen; omega)) trivial hr
 ·split at hr
  ·rename_i u hu
   rw [hu] at hsh
   exact fin_pure h (key 0 (by rw [show a.eval x = _ from h1]; simp [Builtin.len_, run_underlying hsh.1])) (big 0 (by simp [maxLen])) trivial hr
  ·exact run_fail hr
 ·rename_i id
  replace hr := run_obj hr
  obtain ⟨o', hlo, hr⟩ := hr
  split at hr
  ·rename_i e u xs own
   replace hr := run_cond hr
   obtain ⟨hs, hr⟩ := hr
   rw [← Ty.same_eq hs] at hsh
   obtain ⟨A, cc, hv, h3, h4, _⟩ := LA.of_OR (h.objs _ _ hlo).2.1
   have hv' : a.eval x = ob id := h1
   rw [hv] at hv'
   exact fin_pure h (key _ (by rw [hv']; simp [Builtin.len_, run_underlying hsh.1])) (big _ (Nat.le_trans h3 h4)) trivial hr
  ·exact run_fail hr
 ·exact run_fail hr

theorem run_append {tx te : TypeId} {ti : TI} {t : Ty} (hu : P.underlying tx = some (.slice te)) (hte : TOk P te ti) (hty : ti.ty = t) (ty : TypeId) (v : Value) (n : Nat) (xs : List Value) (hown : w.ownsRow 0 te t.size v n xs)
  {y : Value} {ys : List t.den} (hy : LA w Z y t ys) (hroom : (n + ys.length) * ti.bytes ≤ 140737488355328) :
  ∃ v' w' uss, (Builtin.append_ #[tx, tx] ty #[v, y]).run P w = .ok v' w' ∧ All2 (DR w Z t) ys uss ∧ w'.ownsRow 0 te t.size v' (n + ys.length) (xs ++ uss.flatten) ∧ w.grownBy w' v.ownBlock ∧ (v'.ownBlock = v.ownBlock ∨ v'.ownBlock = some w.heap.size) := by
 subst hty
 obtain ⟨i, hi, hz, hs, hb⟩ := hte.parts
 have hwide := hte.wide
 have h63 : n + ys.length ≤ maxLen := by
  have := Nat.mul_le_mul_left (n + ys.length) hwide
  simp only [maxLen]; omega
 have hzs : (pk ti.ty (zc ti.ty)).cells.size = ti.ty.size := by
  rw [← Array.length_toList, pk_cells (DR.zero (w := w) (Z := Z) ti.ty), (DR.zero (w := w) (Z := Z) ti.ty).len]
 obtain ⟨A, c, rfl, h1, h2, h3⟩ := hy
 rcases Nat.eq_zero_or_pos ys.length with h0 | h0
 ·have hnil : ys = [] := List.eq_nil_of_length_eq_zero h0
  subst hnil
  cases A with
  | none =>
   refine ⟨v, w, [], ?_, trivial, by simpa using hown, World.grownBy.refl w _, .inl rfl⟩
   rcases hown.2 with ⟨rfl, rfl⟩ | ⟨g, cap, cur, rfl, _, _, hnc, _⟩
   ·simp [Builtin.append_, run_underlying hu, sizeOf, typeInfo, hi, Builtin.lenOf, Builtin.firstCells]
   ·simp [Builtin.append_, run_underlying hu, sizeOf, typeInfo, hi, Builtin.lenOf, Builtin.firstCells, hnc, storeCells]
  | some ad =>
   obtain ⟨v', w', hrun, q2, q3, _, q5⟩ := run_append_own_at (P := P) w 0 tx ty te i _ ti.ty.size ti.bytes hu hi hz hs hb hzs hte.pos v n xs hown ad 0 c [] (by simp) (fun j u hu => by simp at hu) (fun u hu => by simp at hu) h63 hroom (Nat.zero_le _)
   exact ⟨v', w', [], hrun, trivial, q2, q3, q5⟩
 ·obtain ⟨b, off, uss, rfl, hlt, ha, hc⟩ := h3 h0
  obtain ⟨v', w', hrun, q2, q3, _, q5⟩ := run_append_own_at (P := P) w 0 tx ty te i _ ti.ty.size ti.bytes hu hi hz hs hb hzs hte.pos v n xs hown ⟨b, off, none⟩ ys.length c uss.flatten ha.flatD
   (fun j u hu => by rw [Addr.add_mid]; exact hc j u hu) ha.oneD h63 hroom (Nat.zero_le _)
  exact ⟨v', w', uss, hrun, ha, q2, q3, q5⟩
theorem range_flat (zs : List Value) (k : Nat) (f : Nat → Value) (hf : ∀ i, i < zs.length → f i = zs.getD i undef) (hm : ∀ i, f i = f (i % zs.length)) : (List.range (k * zs.length)).map f = (List.replicate k zs).flatten := by
 induction k with
 | zero => simp
 | succ k ih =>
  rw [Nat.add_mul, Nat.one_mul, List.range_add, List.map_append, ih, List.replicate_succ', List.flatten_append]
  congr 1
  apply List.ext_getElem?
  intro j
  simp only [List.map_map, List.getElem?_map, List.getElem?_range', List.flatten_cons, List.flatten_nil, List.append_nil]
  by_cases hj : j < zs.length
  ·rw [List.getElem?_range hj]
   simp only [Option.map_some, Function.comp]
   rw [hm, Nat.add_comm, Nat.add_mul_mod_self_right, Nat.mod_eq_of_lt hj, hf j hj]
   simp [List.getD, List.getElem?_eq_getElem hj]
  ·rw [List.getElem?_eq_none (by simpa using hj), List.getElem?_eq_none (by simpa using hj)]; rfl
theorem modCells (z : Array Value) (k : Nat) : ((Array.range (k * z.size)).map (fun i => z[i % z.size]!)).toList = (List.replicate k z.toList).flatten := by
 rw [Array.toList_map, Array.toList_range]
 have := range_flat z.toList k (fun i => z[i % z.size]!) (fun i hi => by
  rw [Array.length_toList] at hi
  rw [Nat.mod_eq_of_lt hi]
  simp [List.getD, hi]) (fun i => by simp)
 simpa using this

theorem run_append_zeros {tx tn te : TypeId} {ti : TI} {t : Ty} (hu : P.underlying tx = some (.slice te)) (htn : P.underlying tn = some (.int .i64)) (hte : TOk P te ti) (hty : ti.ty = t) (ty : TypeId) (v : Value) (n : Nat) (xs : List Value) (hown : w.ownsRow 0 te t.size v n xs)
  (k : Nat) (hroom : (n + k) * ti.bytes ≤ 140737488355328) :
  ∃ v' w' uss, (Builtin.append_ #[tx, tn] ty #[v, .int .i64 (k : Int)]).run P w = .ok v' w' ∧ All2 (DR w Z t) (List.replicate k t.zero) uss ∧ w'.ownsRow 0 te t.size v' (n + k) (xs ++ uss.flatten) ∧ w.grownBy w' v.ownBlock ∧ (v'.ownBlock = v.ownBlock ∨ v'.ownBlock = some w.heap.size) := by
 subst hty
 obtain ⟨i, hi, hz, hs, hb⟩ := hte.parts
 have hwide := hte.wide
 have hpos := hte.pos
 have h63 : n + k ≤ maxLen := by
  have := Nat.mul_le_mul_left (n + k) hwide
  simp only [maxLen]; omega
 have hmax : n + k ≤ 9223372036854775807 := h63
 have hzl : (pk ti.ty (zc ti.ty)).cells.toList = zc ti.ty := pk_cells (DR.zero (w := w) (Z := Z) ti.ty)
 have hzs : (pk ti.ty (zc ti.ty)).cells.size = ti.ty.size := by
  rw [← Array.length_toList, hzl, (DR.zero (w := w) (Z := Z) ti.ty).len]
 have hzc : ∀ m, (Builtin.zeroCells (pk ti.ty (zc ti.ty)).cells m).toList = (List.replicate m (zc ti.ty)).flatten := fun m => by
  unfold Builtin.zeroCells; rw [modCells, hzl]
 have hall : All2 (DR w Z ti.ty) (List.replicate k ti.ty.zero) (List.replicate k (zc ti.ty)) := All2.replicate (DR.zero ti.ty) k
 have hfl : ∀ m, (List.replicate m (zc ti.ty)).flatten.length = m * ti.ty.size := fun m => by
  have h := (All2.replicate (DR.zero (w := w) (Z := Z) ti.ty) m).flatD
  simpa using h
 have hw : IntKind.i64.wrap (k : Int) = k := by rw [IntKind.wrap_i64]; omega
 have h48i : ¬ (281474976710656 < (k : Int) * (i.bytes : Int)) := by
  rw [← Int.natCast_mul, hb]
  have : k * ti.bytes ≤ (n + k) * ti.bytes := Nat.mul_le_mul_right _ (by omega)
  omega
 have hneg : ¬ ((k : Int) < 0) := by omega
 have hfit : ∀ cap, ¬ (n + k ≤ cap) → Builtin.nextslicecap (n + k) cap * i.bytes ≤ 281474976710656 := fun cap hc => by
  have := growslice_fits (need := n + k) (old := cap) (bytes := ti.bytes) (by omega) hroom
  rw [hb]; omega
 rcases Nat.eq_zero_or_pos k with h0 | h0
 ·subst h0
  have hw0 : IntKind.i64.wrap 0 = 0 := by decide
  refine ⟨v, w, [], ?_, trivial, by simpa using hown, World.grownBy.refl w _, .inl rfl⟩
  rcases hown.2 with ⟨rfl, rfl⟩ | ⟨g, cap, cur, rfl, _, _, hnc, _⟩
  ·simp [Builtin.append_, run_underlying hu, run_underlying htn, sizeOf, typeInfo, hi, asInt, asIntOf, hw0]
  ·simp [Builtin.append_, run_underlying hu, run_underlying htn, sizeOf, typeInfo, hi, asInt, asIntOf, hw0, hnc, storeCells]
 ·have hgrown : ∀ (cap : Nat) (olds : List Value) (row : Option Nat), olds.length = n * ti.ty.size → ¬ (n + k ≤ cap) →
    (w.drew.alloc (.cells (olds.toArray ++ Builtin.zeroCells (pk ti.ty (zc ti.ty)).cells k ++ Builtin.zeroCells (pk ti.ty (zc ti.ty)).cells (grownCap w (n + k) cap te - (n + k))) te)).ownsRow 0 te ti.ty.size
     (.slice (some ⟨w.heap.size, 0, none⟩) (n + k) (grownCap w (n + k) cap te)) (n + k) (olds ++ (List.replicate k (zc ti.ty)).flatten) ∧
    w.grownBy (w.drew.alloc (.cells (olds.toArray ++ Builtin.zeroCells (pk ti.ty (zc ti.ty)).cells k ++ Builtin.zeroCells (pk ti.ty (zc ti.ty)).cells (grownCap w (n + k) cap te - (n + k))) te)) row := by
   intro cap olds row hol hc
   have hge := grownCap_ge w (n + k) cap te
   have hcm : grownCap w (n + k) cap te ≤ maxLen := grownCap_le_maxLen w (n + k) cap te h63
   have hlen : (olds ++ (List.replicate k (zc ti.ty)).flatten).length = (n + k) * ti.ty.size := by rw [List.length_append, hol, hfl, Nat.add_mul]
   refine ⟨⟨hlen, .inr ⟨w.heap.size, _, _, rfl, Nat.zero_le _, heap_alloc_new w.drew _, hge, hcm, ?_, ?_⟩⟩, ⟨rfl, rfl, rfl, by simp, fun k hk _ => heap_alloc_old w.drew _ k hk⟩⟩
   ·rw [← Array.length_toList]
    simp only [Array.toList_append, List.toList_toArray, hzc, List.length_append, hol, hfl, ← Nat.add_mul]
    congr 1; omega
   ·simp only [Array.toList_append, List.toList_toArray, hzc]
    rw [← hlen, List.append_assoc, ← List.append_assoc, List.take_left]
  rcases hown.2 with ⟨rfl, rfl⟩ | ⟨g, cap, cur, rfl, hbg, hg, hnc, hcm, hcs, htake⟩
  ·have hx : xs = [] := List.eq_nil_of_length_eq_zero (by simpa using hown.1)
   subst hx
   have hr := Lib.run_append_grow_zeros (P := P) w tx tn ty te i _ .i64 .i64 hu htn hi hz none 0 0 [] (by simp [Builtin.firstCells]) k h0 (by omega) (by omega) (by omega) (by rw [hb]; have : k * ti.bytes ≤ (0 + k) * ti.bytes := Nat.mul_le_mul_right _ (by omega); omega) (hfit 0 (by omega))
   have hgr := hgrown 0 [] (Value.ownBlock (.slice none 0 0)) (by simp) (by omega)
   exact ⟨_, _, _, hr, hall, hgr.1, hgr.2, .inr rfl⟩
  ·by_cases hroom2 : n + k ≤ cap
   ·have hst := run_storeCells_at P g (n * ti.ty.size) te (List.replicate k (zc ti.ty)).flatten 0 cur w hg (by rw [hfl, hcs, Nat.add_zero, ← Nat.add_mul]; exact Nat.mul_le_mul_right _ hroom2) (fun u hu' => hall.oneD u hu')
    simp only [Nat.add_zero] at hst
    have hns : ¬ (k * ti.ty.size = 0) := Nat.mul_ne_zero (by omega) (by omega)
    generalize hnew : (cur.toList.take (n * ti.ty.size) ++ (List.replicate k (zc ti.ty)).flatten ++ cur.toList.drop (n * ti.ty.size + (List.replicate k (zc ti.ty)).flatten.length)).toArray = new at hst
    refine ⟨.slice (some ⟨g, 0, none⟩) (n + k) cap, w.setRow g new, List.replicate k (zc ti.ty), ?_, hall, ⟨?_, .inr ⟨g, cap, new, rfl, hbg, setRow_heap w g cur _ te _ hg, hroom2, hcm, ?_, ?_⟩⟩, ⟨rfl, rfl, rfl, by simp, fun k _ hk => setRow_other w g k _ (fun e => hk (by simp [Value.ownBlock, e]))⟩, .inl rfl⟩
    ·simp [Builtin.append_, run_underlying hu, run_underlying htn, sizeOf, typeInfo, hi, asInt, asIntOf, hw, hneg, h48i, hs, hns, hroom2, zeroValue, hz, Addr.add_mid, hzc, hst]
    ·rw [List.length_append, hown.1, hfl, Nat.add_mul]
    ·have hcl : cur.toList.length = cap * ti.ty.size := by rw [← hcs]; exact Array.length_toList
     subst hnew
     simp only [List.size_toArray, List.length_append, List.length_take, List.length_drop, hfl, hcl, ← Nat.add_mul]
     have : (n + k) * ti.ty.size ≤ cap * ti.ty.size := Nat.mul_le_mul_right _ hroom2
     rw [Nat.add_mul] at this ⊢
     omega
    ·subst hnew
     rw [htake, List.toList_toArray, ← show (xs ++ (List.replicate k (zc ti.ty)).flatten).length = (n + k) * ti.ty.size by rw [List.length_append, hown.1, hfl, Nat.add_mul]]
     exact List.take_left
   ·have holds : ∀ j u, xs[j]? = some u → w.drew.cell? ((⟨g, 0, none⟩ : Addr).add j) = some u := hown.cells (g := g) rfl
    have hr := Lib.run_append_grow_zeros (P := P) w tx tn ty te i _ .i64 .i64 hu htn hi hz (some ⟨g, 0, none⟩) n cap xs (by rw [hs]; exact run_firstCells_some _ _ _ _ _ _ xs hown.1 holds) k h0 (by omega) (by omega) (by omega) (by rw [hb]; have : k * ti.bytes ≤ (n + k) * ti.bytes := Nat.mul_le_mul_right _ (by omega); omega) (hfit cap hroom2)
    have hgr := hgrown cap xs (Value.ownBlock (.slice (some ⟨g, 0, none⟩) n cap)) hown.1 hroom2
    exact ⟨_, _, _, hr, hall, hgr.1, hgr.2, .inr rfl⟩
theorem all2_u8 (xs : List UInt8) : All2 (DR w Z .u8) xs (xs.map fun b => [.int .u8 (b.toNat : Int)]) := by
 induction xs with
 | nil => trivial
 | cons x xs ih => exact ⟨rfl, ih⟩
theorem flat_u8 (xs : List UInt8) : (xs.map fun b => [Value.int .u8 (b.toNat : Int)]).flatten = Lib.strCells ⟨xs.toArray⟩ := by
 unfold Lib.strCells
 induction xs with
 | nil => rfl
 | cons x xs ih => simp only [List.map_cons, List.flatten_cons] at ih ⊢; rw [ih]; rfl
theorem run_append_str {tx tn te : TypeId} {ti : TI} (hu : P.underlying tx = some (.slice te)) (htn : P.underlying tn = some .string) (hte : TOk P te ti) (hty : ti.ty = .u8) (hby : ti.bytes = 1) (ty : TypeId) (v : Value) (n : Nat) (xs : List Value) (hown : w.ownsRow 0 te (Ty.size .u8) v n xs)
  (ys : List UInt8) (hroom : (n + ys.length) * ti.bytes ≤ 140737488355328) :
  ∃ v' w' uss, (Builtin.append_ #[tx, tn] ty #[v, .string ⟨ys.toArray⟩]).run P w = .ok v' w' ∧ All2 (DR w Z .u8) ys uss ∧ w'.ownsRow 0 te (Ty.size .u8) v' (n + ys.length) (xs ++ uss.flatten) ∧ w.grownBy w' v.ownBlock ∧ (v'.ownBlock = v.ownBlock ∨ v'.ownBlock = some w.heap.size) := by
 obtain ⟨i, hi, hz, hs, hb⟩ := hte.parts
 rw [hty] at hz hs
 have hz' : i.zero = some (.int .u8 0) := hz
 have hs' : i.size = 1 := hs
 rw [hby] at hb hroom
 have hsz : (ByteArray.mk ys.toArray).size = ys.length := by simp [ByteArray.size]
 have hown' : w.ownsRow 0 te 1 v n xs := hown
 have h63 : n + ys.length ≤ maxLen := by simp only [maxLen]; omega
 obtain ⟨v', w', hr, h1, h2, h3⟩ := Lib.run_append_own_string (P := P) w 0 tx tn ty te i hu htn hi hz' hs' hb v n xs hown' ⟨ys.toArray⟩ (by rw [hsz]; exact h63) (by rw [hsz]; omega) (Nat.zero_le _)
 refine ⟨v', w', ys.map fun b => [.int .u8 (b.toNat : Int)], hr, all2_u8 ys, ?_, h2, ?_⟩
 ·rw [flat_u8, hsz] at *; exact h1
 ·have hxl : xs.length = n := by simpa using hown'.1
  rcases hown'.2 with ⟨rfl, rfl⟩ | ⟨g, cap, cur, rfl, _, hg, hnc, hcm, hcs, htake⟩
  ·by_cases hm : ys.length = 0
   ·left; rw [h3.2 ⟨rfl, by rw [hsz]; exact hm⟩]
   ·right
    have hr2 := run_append_nil_string (P := P) w tx tn ty te i (.int .u8 0) hu htn hi hz' ⟨ys.toArray⟩ (by rw [hsz]; omega) (by rw [hsz]; omega) (by rw [hsz, hb]; omega)
    rw [hr] at hr2
    cases hr2
    rfl
  ·by_cases hroom2 : n + ys.length ≤ cap
   ·left
    have hcs' : cur.size = cap := by simpa using hcs
    have hr2 := Lib.run_append_room_string (P := P) w tx tn ty te i hu htn hi hs' g n cap cur hg ⟨ys.toArray⟩ (by rw [hsz]; exact hroom2) (by rw [hsz]; omega)
    rw [hr] at hr2
    cases hr2
    rfl
   ·right
    have holds : ∀ j u, xs[j]? = some u → w.cell? ((⟨g, 0, none⟩ : Addr).add j) = some u := hown'.cells (g := g) rfl
    have hr2 := Lib.run_append_grow_string (P := P) w tx tn ty te i (.int .u8 0) hu htn hi hz' ⟨g, 0, none⟩ n cap xs (by rw [hs']; simpa using hxl) holds ⟨ys.toArray⟩ (by rw [hsz]; omega) (by rw [hsz]; omega) (by rw [hb, hsz]; exact growslice_fits (by omega) (by omega))
    rw [hr] at hr2
    cases hr2
    rfl
theorem own_slice' {w : World} {e sz n : Nat} {v : Value} {xs : List Value} (h : w.ownsRow 0 e sz v n xs) : blk v = v.ownBlock := by
 rcases h.2 with ⟨rfl, _⟩ | ⟨g, cap, cur, rfl, _⟩ <;> rfl

def GS.gone (s : GS) : Option Nat → GS
 | some id => s.put (.obj id none)
 | none => s
theorem RepAt.appended (h : RepAt E N U ob Z s a w) (hf : ¬ U fresh) {e : Nat} {t : Ty} {xs ys : List t.den} {uss : List (List Value)} {old : Option Nat} {v v' : Value} {w' : World} {flat : List Value}
  (hold : match old with
   | some id => look id s.objs = some (.row e t xs true) ∧ v = ob id
   | none => xs = [] ∧ v = .slice none 0 0)
  (hx : ∃ uss0, All2 (DR w Z t) xs uss0 ∧ flat = uss0.flatten) (hy : All2 (DR w Z t) ys uss) (hown : w'.ownsRow 0 e t.size v' (xs.length + ys.length) (flat ++ uss.flatten)) (hgr : w.grownBy w' v.ownBlock) (hv : blk v = v.ownBlock) (hb : v'.ownBlock = v.ownBlock ∨ v'.ownBlock = some w.heap.size) :
  RepAt E N (fun j => U j ∨ j = fresh) (fun j => if j = fresh then v' else ob j) Z ((s.gone old).put (.obj fresh (some (.row e t (xs ++ ys) true)))) a w' := by
 obtain ⟨uss0, hx1, hx2⟩ := hx
 have hk : Kept (fun b => v.ownBlock = some b) w w' := Kept.of_grown hgr
 have hM : ∀ b, v.ownBlock = some b → ¬ Z b ∧ (E.M b ∨ E.w0.heap.size ≤ b) := by
  intro b hbb
  cases old with
  | none => obtain ⟨_, rfl⟩ := hold; cases hbb
  | some id => obtain ⟨hl, rfl⟩ := hold; exact h.own id _ hl rfl b (hv.trans hbb)
 have hs0 : RepAt E N U ob Z (s.gone old) a w := by
  cases old with
  | none => exact h
  | some id => exact h.noObj id
 have hoth : ∀ j o2, look j (s.gone old).objs = some o2 → ∀ b, blk (ob j) = some b → ¬ v.ownBlock = some b := by
  intro j o2 hj b hbj hbv
  cases old with
  | none => obtain ⟨_, rfl⟩ := hold; cases hbv
  | some id =>
   obtain ⟨hl, rfl⟩ := hold
   have hne : j ≠ id := fun e => by subst e; simp only [GS.gone, GS.put, look_ldel_same] at hj; cases hj
   simp only [GS.gone, GS.put, look_ldel_ne hne] at hj
   cases ho2 : o2.own with
   | true => exact h.apart j id o2 _ hne hj hl ho2 rfl b hbj (hv.trans hbv)
   | false => exact (hM b hbv).1 ((h.objs j o2 hj).2.1.block_Z ho2 b hbj)
 have h1 := hs0.world hk (fun b hZ hbv => (hM b hbv).1 hZ) (fun b hbv => (hM b hbv).2) hoth
 have hs := hk.same (Z := Z) fun b hZ hbv => (hM b hbv).1 hZ
 have hv' := own_slice' hown
 refine h1.newObj hf ?_ (show (Ob.row e t (xs ++ ys) true).ids U from trivial) fun _ b hbb => ?_
 ·refine ⟨uss0 ++ uss, (hx1.append hy).mono fun _ _ hd => hd.mono hs fun _ h => h, ?_, fun h => by cases h⟩
  simp only [if_true]
  rw [List.length_append, List.flatten_append, ← hx2]
  exact hown
 ·rw [hv'] at hbb
  rcases hb with hb | hb
  ·rw [hb] at hbb
   exact ⟨(hM b hbb).1, (hM b hbb).2, fun j o2 hj _ hbj => hoth j o2 hj b hbj hbb⟩
  ·rw [hb] at hbb; cases hbb
   exact ⟨fun hz => Nat.lt_irrefl _ (h.zlt _ hz), .inr h.kept.size, fun j o2 hj _ hbj => Nat.lt_irrefl _ ((hs0.objs j o2 hj).2.1.block_lt _ hbj)⟩

end
end Go.Proofs.YtehbbcdhahnkgaaGreat
