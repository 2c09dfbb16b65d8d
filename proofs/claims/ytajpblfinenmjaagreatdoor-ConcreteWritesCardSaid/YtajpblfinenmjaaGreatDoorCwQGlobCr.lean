/- What the laid variables hold. -/
import Derived.Test.YtajpblfinenmjaaGreatDoorGmZ
import Derived.Test.YtajpblfinenmjaaGreatDoorFnsConcreteWritesA
import Derived.Test.YtajpblfinenmjaaGreatDoorRows
import Derived.LaidMore
import Derived.Test.YtajpblfinenmjaaGreatDoorFrameX
import Derived.KernelRfl
set_option linter.unusedVariables false
set_option linter.unusedSimpArgs false
namespace Go.Proofs.YtajpblfinenmjaaGreatDoor.Pl
open Go
open Go.RowKit Go.ChangeShapes Go.WideShapes
theorem gQ : Tryz.prog.globalNamed "ipsecgate/chacha.quarters" = some 2 := by kernel_rfl
theorem tQ : (Tryz.prog.globals[2]?).map (·.type) = some 131 := by kernel_rfl
theorem zwl2 : Tryz.prog.cellsOf 131 = 32 := by kernel_rfl
theorem zwl3 : Tryz.prog.cellsOf 130 = 4 := by kernel_rfl
theorem cells3 : Tryz.prog.cellsOf 3 = 1 := by kernel_rfl
theorem dQ {H : Type} : (Rows.laid_ipsecgate_chacha_quarters : DataW H) = .agg (zwd.map fun r => Lib.tabData .i64 r) := by kernel_rfl
theorem zwl4 {H : Type} {enc : TypeId × Value → H} {P : Program} {w : World} {base : Nat} {sp : Nat → Bool} {held : Bool} {fuel : Nat} {t r e : TypeId} {n m : Nat} {k : IntKind} {cs : List Value} {zss : List (List Int)} {p : List MemPlace}
  (ht : P.underlying t = some (.array n r)) (hr : P.underlying r = some (.array m e)) (he : P.underlying e = some (.int k)) (hce : P.cellsOf e = 1) (hcr : P.cellsOf r = m) (hct : P.cellsOf t = n * m)
  (h : DataW.trod enc P w base sp held fuel t cs = some (.agg (zss.map fun zs => Lib.tabData k zs), p)) (hz : ∀ zs ∈ zss, zs.length = m) : cs = (zss.map fun zs => zs.map fun z => Value.int k z).flatten := by
 cases fuel with
 | zero => simp [DataW.trod] at h
 | succ fuel =>
  simp only [DataW.trod, ht, hcr] at h
  split at h
  ·rename_i hl
   obtain ⟨xs, hm, hx⟩ := Option.map_eq_some_iff.1 h
   have hxs : xs.map (·.1) = zss.map fun zs => (Lib.tabData k zs : DataW H) := by
    have := congrArg Prod.fst hx
    simpa using this
   have hxl : xs.length = n := by simpa using Lib.mapM_length hm
   have hzl : zss.length = n := by
    have := congrArg List.length hxs
    simp at this
    omega
   have hrow : ∀ i (hi : i < n), (cs.drop (i * m)).take m = (zss.getD i []).map fun z => Value.int k z := by
    intro i hi
    obtain ⟨b, hb, hf⟩ := Lib.mapM_at hm i i (by simp [hi])
    have hbd : b.1 = Lib.tabData k (zss.getD i []) := by
     have h2 := congrArg (·[i]?) hxs
     simp only [List.getElem?_map, hb, Option.map_some, List.getElem?_eq_getElem (show i < zss.length by omega)] at h2
     rw [Option.some.inj h2]
     simp [List.getD, show i < zss.length by omega]
    obtain ⟨b1, b2⟩ := b
    simp only at hbd
    subst hbd
    exact Lib.cells_of_tab hr he hce hcr hf
   clear hm h hx hxs
   have hcl : cs.length = n * m := by
    first
    | exact hl
    | omega
   clear hl
   subst hzl
   clear hxl hct ht
   induction zss generalizing cs with
   | nil => simp at hcl; simp [hcl]
   | cons zs zss ih =>
    have h0 := hrow 0 (by simp)
    simp only [Nat.zero_mul, List.drop_zero, List.getD_cons_zero] at h0
    have ih' := ih (cs := cs.drop m) (fun z hz' => hz z (by simp [hz'])) (fun i hi => by
     have := hrow (i + 1) (by simp; omega)
     rw [List.getD_cons_succ] at this
     rw [List.drop_drop, show m + i * m = (i + 1) * m by rw [Nat.add_mul]; omega, this]) (by
     rw [List.length_drop, hcl, List.length_cons, Nat.add_mul]; omega)
    rw [List.map_cons, List.flatten_cons, ← h0, ← ih', List.take_append_drop]
  ·cases h
theorem gI : Tryz.prog.globalNamed "ipsecgate/sha256.initial" = some 0 := by kernel_rfl
theorem gC : Tryz.prog.globalNamed "ipsecgate/sha256.constants" = some 1 := by kernel_rfl
theorem tI : (Tryz.prog.globals[0]?).map (·.type) = some 84 := by kernel_rfl
theorem tC : (Tryz.prog.globals[1]?).map (·.type) = some 100 := by kernel_rfl
theorem zwl5 : Tryz.prog.cellsOf 84 = 8 := by kernel_rfl
theorem zwl6 : Tryz.prog.cellsOf 100 = 64 := by kernel_rfl
theorem cellsE : Tryz.prog.cellsOf 83 = 1 := by kernel_rfl
noncomputable def zI : List Int := zw15.map fun u => (u.toNat : Int)
noncomputable def zC : List Int := zw1x.map fun u => (u.toNat : Int)
theorem dI {H : Type} : (Rows.laid_ipsecgate_sha256_initial : DataW H) = Lib.tabData .u32 zI := by kernel_rfl
theorem dC {H : Type} : (Rows.laid_ipsecgate_sha256_constants : DataW H) = Lib.tabData .u32 zC := by kernel_rfl
theorem zwl7 {W : World} (h : laidMetH Tryz.prog [("ipsecgate/chacha.quarters", Rows.laid_ipsecgate_chacha_quarters), ("ipsecgate/sha256.constants", Rows.laid_ipsecgate_sha256_constants), ("ipsecgate/sha256.initial", Rows.laid_ipsecgate_sha256_initial)] W) :
  ∀ g d, look g zw8 = some d → SR W (fun b => b < W.heap.size) (fun _ => undef) (.fp d.1 d.2) (.pointer (some ⟨g, 0, none⟩)) := by
 rw [MakeChecks.laidMetH_plain _ _ _ (by kernel_rfl)] at h
 obtain ⟨ps, ⟨g2, t2, cs2, f2, p2, q2, hg2, ht2, hv2, hd2, ⟨g0, t0, cs0, f0, p0, q0, hg0, ht0, hv0, hd0, ⟨g1, t1, cs1, f1, p1, q1, hg1, ht1, hv1, hd1, _, _⟩, _⟩, _⟩, _, _⟩ := h
 obtain rfl := Option.some.inj (gC.symm.trans hg0)
 obtain rfl := Option.some.inj (gI.symm.trans hg1)
 obtain rfl := Option.some.inj (tC.symm.trans ht0)
 obtain rfl := Option.some.inj (tI.symm.trans ht1)
 rw [dC] at hd0
 rw [dI] at hd1
 have e0 := Lib.cells_of_tab Tryz.underlying100 Tryz.underlying83 cellsE zwl6 hd0
 have e1 := Lib.cells_of_tab Tryz.underlying84 Tryz.underlying83 cellsE zwl5 hd1
 have i0 : W.var? Tryz.prog "ipsecgate/sha256.constants" = some (zw1x.map fun u => Value.int .u32 (u.toNat : Int)).toArray := by
  rw [hv0, ← Array.toArray_toList (xs := cs0), e0]; simp [zC, Function.comp_def]
 have i1 : W.var? Tryz.prog "ipsecgate/sha256.initial" = some (zw15.map fun u => Value.int .u32 (u.toNat : Int)).toArray := by
  rw [hv1, ← Array.toArray_toList (xs := cs1), e1]; simp [zI, Function.comp_def]
 obtain rfl := Option.some.inj (gQ.symm.trans hg2)
 obtain rfl := Option.some.inj (tQ.symm.trans ht2)
 rw [dQ] at hd2
 have e2 := zwl4 Tryz.underlying131 Tryz.underlying130 Tryz.underlying3 cells3 zwl3 zwl2 hd2 (by decide)
 have i2 : W.var? Tryz.prog "ipsecgate/chacha.quarters" = some ((zwd.map fun zs => zs.map fun z => Value.int .i64 z).flatten).toArray := by
  rw [hv2, ← Array.toArray_toList (xs := cs2), e2]
 intro g d hl
 have hl' : look g [((0 : Nat), (⟨.arr 8 .u32, zw15⟩ : Dt)), (1, ⟨.arr 64 .u32, zw1x⟩), (2, ⟨.arr 8 (.arr 4 .i64), zwd⟩)] = some d := hl
 by_cases h0 : g = 0
 ·subst h0
  obtain rfl : _ = d := Option.some.inj hl'
  exact sr_var gI i1 (zw8s rfl) (by simp [zw15])
 ·by_cases h1 : g = 1
  ·subst h1
   obtain rfl : _ = d := Option.some.inj hl'
   exact sr_var gC i0 (zw8s rfl) (by simp [zw1x])
  ·by_cases h2 : g = 2
   ·subst h2
    obtain rfl : _ = d := Option.some.inj hl'
    refine sr_var gQ i2 ⟨rfl, _, rfl, ?_⟩ (by decide)
    have row : ∀ l : List Int, l.length = 4 → (∀ z ∈ l, (Lit.int .i64 z).wf = true) → DR W (fun b => b < W.heap.size) (.arr 4 .i64) l (l.map fun z => Value.int .i64 z) := fun l h4 hw => ⟨h4, _, (zwbq l).symm, zwbp l hw⟩
    have all : ∀ L : List (List Int), (∀ l ∈ L, l.length = 4 ∧ ∀ z ∈ l, (Lit.int .i64 z).wf = true) → All2 (DR W (fun b => b < W.heap.size) (.arr 4 .i64)) L (L.map fun zs => zs.map fun z => Value.int .i64 z) := by
     intro L
     induction L with
     | nil => intro _; trivial
     | cons l L ih => intro hL; exact ⟨row l (hL l (by simp)).1 (hL l (by simp)).2, ih fun x hx => hL x (by simp [hx])⟩
    exact all zwd (by decide)
   ·have e0 : Nat.beq 0 g = false := by
     rw [Bool.eq_false_iff]; intro e; exact h0 (Nat.eq_of_beq_eq_true e).symm
    have e1 : Nat.beq 1 g = false := by
     rw [Bool.eq_false_iff]; intro e; exact h1 (Nat.eq_of_beq_eq_true e).symm
    have e2 : Nat.beq 2 g = false := by
     rw [Bool.eq_false_iff]; intro e; exact h2 (Nat.eq_of_beq_eq_true e).symm
    simp only [look, e0, e1, e2, cond_false] at hl'
    cases hl'
end Go.Proofs.YtajpblfinenmjaaGreatDoor.Pl
