/- What the laid variable holds: the quarters of ChaCha20. -/
import Derived.Test.YtofajgidjkjnpaaDoorGmWalk
import Derived.Test.YtofajgidjkjnpaaDoorFnsSealedReturnsA
import Derived.Test.YtofajgidjkjnpaaDoorRows
import Derived.LaidMore
import Derived.Test.YtofajgidjkjnpaaDoorFrameInts
import Derived.KernelRfl
set_option linter.unusedVariables false
set_option linter.unusedSimpArgs false
namespace Go.Proofs.YtofajgidjkjnpaaDoor.Pl
open Go
open Go.RowKit Go.ChangeShapes Go.WideShapes
theorem gQ : Tryd.prog.globalNamed "ipsecgate/chacha.quarters" = some 3 := by kernel_rfl
theorem tQ : (Tryd.prog.globals[3]?).map (·.type) = some 226 := by kernel_rfl
theorem cells226 : Tryd.prog.cellsOf 226 = 32 := by kernel_rfl
theorem cells225 : Tryd.prog.cellsOf 225 = 4 := by kernel_rfl
theorem cells3 : Tryd.prog.cellsOf 3 = 1 := by kernel_rfl
theorem dQ {H : Type} : (Rows.laid_ipsecgate_chacha_quarters : DataW H) = .agg (g_chacha_quarters.map fun r => Lib.tabData .i64 r) := by kernel_rfl
/-- An array of rows of integers that reads as the table holds the table's numbers. -/
theorem cells_of_rows {H : Type} {enc : TypeId × Value → H} {P : Program} {w : World} {base : Nat} {sp : Nat → Bool} {held : Bool} {fuel : Nat} {t r e : TypeId} {n m : Nat} {k : IntKind} {cs : List Value} {zss : List (List Int)} {p : List MemPlace}
    (ht : P.underlying t = some (.array n r)) (hr : P.underlying r = some (.array m e)) (he : P.underlying e = some (.int k)) (hce : P.cellsOf e = 1) (hcr : P.cellsOf r = m) (hct : P.cellsOf t = n * m)
    (h : DataW.trod enc P w base sp held fuel t cs = some (.agg (zss.map fun zs => Lib.tabData k zs), p)) (hz : ∀ zs ∈ zss, zs.length = m) : cs = (zss.map fun zs => zs.map fun z => Value.int k z).flatten := by
  cases fuel with
  | zero => simp [DataW.trod] at h
  | succ fuel =>
    simp only [DataW.trod, ht, hcr] at h
    split at h
    · rename_i hl
      obtain ⟨xs, hm, hx⟩ := Option.map_eq_some_iff.1 h
      have hxs : xs.map (·.1) = zss.map fun zs => (Lib.tabData k zs : DataW H) := by
        have := congrArg Prod.fst hx
        simpa using this
      have hxl : xs.length = n := by simpa using Lib.mapM_length hm
      have hzl : zss.length = n := by
        have := congrArg List.length hxs
        simp at this
        omega
      have hrow : ∀ i (hi : i < n), (cs.drop (i * m)).take m = (zss.getD i []).map fun z => Value.int k z := by
        intro i hi
        obtain ⟨b, hb, hf⟩ := Lib.mapM_at hm i i (by simp [hi])
        have hbd : b.1 = Lib.tabData k (zss.getD i []) := by
          have h2 := congrArg (·[i]?) hxs
          simp only [List.getElem?_map, hb, Option.map_some, List.getElem?_eq_getElem (show i < zss.length by omega)] at h2
          rw [Option.some.inj h2]
          simp [List.getD, show i < zss.length by omega]
        obtain ⟨b1, b2⟩ := b
        simp only at hbd
        subst hbd
        exact Lib.cells_of_tab hr he hce hcr hf
      clear hm h hx hxs
      have hcl : cs.length = n * m := by
        first
        | exact hl
        | omega
      clear hl
      subst hzl
      clear hxl hct ht
      induction zss generalizing cs with
      | nil => simp at hcl; simp [hcl]
      | cons zs zss ih =>
        have h0 := hrow 0 (by simp)
        simp only [Nat.zero_mul, List.drop_zero, List.getD_cons_zero] at h0
        have ih' := ih (cs := cs.drop m) (fun z hz' => hz z (by simp [hz'])) (fun i hi => by
          have := hrow (i + 1) (by simp; omega)
          rw [List.getD_cons_succ] at this
          rw [List.drop_drop, show m + i * m = (i + 1) * m by rw [Nat.add_mul]; omega, this]) (by
          rw [List.length_drop, hcl, List.length_cons, Nat.add_mul]; omega)
        rw [List.map_cons, List.flatten_cons, ← h0, ← ih', List.take_append_drop]
    · cases h
theorem globs_ok {W : World} (h : laidMetH Tryd.prog [("ipsecgate/chacha.quarters", Rows.laid_ipsecgate_chacha_quarters)] W) :
    ∀ g d, look g G_globs = some d → SR W (fun b => b < W.heap.size) (fun _ => undef) (.fp d.1 d.2) (.pointer (some ⟨g, 0, none⟩)) := by
  rw [MakeChecks.laidMetH_plain _ _ _ (by kernel_rfl)] at h
  obtain ⟨ps, ⟨g0, t0, cs0, f0, p0, q0, hg0, ht0, hv0, hd0, _, _⟩, _, _⟩ := h
  obtain rfl := Option.some.inj (gQ.symm.trans hg0)
  obtain rfl := Option.some.inj (tQ.symm.trans ht0)
  rw [dQ] at hd0
  have e0 := cells_of_rows Tryd.underlying226 Tryd.underlying225 Tryd.underlying3 cells3 cells225 cells226 hd0 (by decide)
  have i0 : W.var? Tryd.prog "ipsecgate/chacha.quarters" = some ((g_chacha_quarters.map fun zs => zs.map fun z => Value.int .i64 z).flatten).toArray := by
    rw [hv0, ← Array.toArray_toList (xs := cs0), e0]
  intro g d hl
  have hl' : look g [((3 : Nat), (⟨.arr 8 (.arr 4 .i64), g_chacha_quarters⟩ : Dt))] = some d := hl
  by_cases h0 : g = 3
  · subst h0
    obtain rfl : _ = d := Option.some.inj hl'
    refine sr_var gQ i0 ⟨rfl, _, rfl, ?_⟩ (by decide)
    have row : ∀ l : List Int, l.length = 4 → (∀ z ∈ l, (Lit.int .i64 z).wf = true) → DR W (fun b => b < W.heap.size) (.arr 4 .i64) l (l.map fun z => Value.int .i64 z) := fun l h4 hw => ⟨h4, _, (flat_i64s l).symm, dr_i64s l hw⟩
    have all : ∀ L : List (List Int), (∀ l ∈ L, l.length = 4 ∧ ∀ z ∈ l, (Lit.int .i64 z).wf = true) → All2 (DR W (fun b => b < W.heap.size) (.arr 4 .i64)) L (L.map fun zs => zs.map fun z => Value.int .i64 z) := by
      intro L
      induction L with
      | nil => intro _; trivial
      | cons l L ih => intro hL; exact ⟨row l (hL l (by simp)).1 (hL l (by simp)).2, ih fun x hx => hL x (by simp [hx])⟩
    exact all g_chacha_quarters (by decide)
  · have e0 : Nat.beq 3 g = false := by
      rw [Bool.eq_false_iff]; intro e; exact h0 (Nat.eq_of_beq_eq_true e).symm
    simp only [look, e0, cond_false] at hl'
    cases hl'
end Go.Proofs.YtofajgidjkjnpaaDoor.Pl
