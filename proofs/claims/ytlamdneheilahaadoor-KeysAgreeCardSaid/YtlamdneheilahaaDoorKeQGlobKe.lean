/- What the laid variables hold: the tables of SHA-256, and the sizes of the keys. -/
import Derived.Test.YtlamdneheilahaaDoorGmWalk
import Derived.Test.YtlamdneheilahaaDoorFnsKeysAgreeA
import Derived.Test.YtlamdneheilahaaDoorRows
import Derived.LaidMore
import Derived.Test.YtlamdneheilahaaDoorFrameInts
import Derived.KernelRfl
set_option linter.unusedVariables false
set_option linter.unusedSimpArgs false
namespace Go.Proofs.YtlamdneheilahaaDoor.Pl
open Go
open Go.RowKit Go.ChangeShapes Go.WideShapes
theorem gI : Tryd.prog.globalNamed "ipsecgate/sha256.initial" = some 0 := by kernel_rfl
theorem gC : Tryd.prog.globalNamed "ipsecgate/sha256.constants" = some 1 := by kernel_rfl
theorem tI : (Tryd.prog.globals[0]?).map (·.type) = some 34 := by kernel_rfl
theorem tC : (Tryd.prog.globals[1]?).map (·.type) = some 92 := by kernel_rfl
theorem cells34 : Tryd.prog.cellsOf 34 = 8 := by kernel_rfl
theorem cells92 : Tryd.prog.cellsOf 92 = 64 := by kernel_rfl
theorem cellsE : Tryd.prog.cellsOf 33 = 1 := by kernel_rfl
noncomputable def zI : List Int := g_sha256_initial.map fun u => (u.toNat : Int)
noncomputable def zC : List Int := g_sha256_constants.map fun u => (u.toNat : Int)
theorem dI {H : Type} : (Rows.laid_ipsecgate_sha256_initial : DataW H) = Lib.tabData .u32 zI := by kernel_rfl
theorem dC {H : Type} : (Rows.laid_ipsecgate_sha256_constants : DataW H) = Lib.tabData .u32 zC := by kernel_rfl
theorem gS : Tryd.prog.globalNamed "ipsecgate/keys.sizes" = some 2 := by kernel_rfl
theorem tS : (Tryd.prog.globals[2]?).map (·.type) = some 48 := by kernel_rfl
theorem lits_inj {H : Type} {k : IntKind} {a b : List Int} (h : lits (H := H) k a = lits k b) : a = b := by
  unfold lits at h
  induction a generalizing b with
  | nil => cases b <;> simp_all
  | cons x a ih =>
    cases b with
    | nil => simp at h
    | cons y b =>
      simp only [List.map_cons, List.cons.injEq, DataW.lit.injEq, Lit.int.injEq, true_and] at h
      rw [h.1, ih h.2]
theorem globs_ok {W : World} (h : laidMetH Tryd.prog [("ipsecgate/sha256.constants", Rows.laid_ipsecgate_sha256_constants), ("ipsecgate/sha256.initial", Rows.laid_ipsecgate_sha256_initial), ("ipsecgate/keys.sizes", Rows.laid_ipsecgate_keys_sizes)] W) :
    ∀ g d, look g G_globs = some d → SR W (fun b => b < W.heap.size) (fun _ => undef) (.fp d.1 d.2) (.pointer (some ⟨g, 0, none⟩)) := by
  rw [MakeChecks.laidMetH_plain _ _ _ (by kernel_rfl)] at h
  obtain ⟨ps, ⟨g0, t0, cs0, f0, p0, q0, hg0, ht0, hv0, hd0, ⟨g1, t1, cs1, f1, p1, q1, hg1, ht1, hv1, hd1, ⟨g2, t2, cs2, f2, p2, q2, hg2, ht2, hv2, hd2, _, _⟩, _⟩, _⟩, _, _⟩ := h
  obtain rfl := Option.some.inj (gC.symm.trans hg0)
  obtain rfl := Option.some.inj (gI.symm.trans hg1)
  obtain rfl := Option.some.inj (tC.symm.trans ht0)
  obtain rfl := Option.some.inj (tI.symm.trans ht1)
  obtain rfl := Option.some.inj (gS.symm.trans hg2)
  obtain rfl := Option.some.inj (tS.symm.trans ht2)
  have i2 : ∃ v, W.var? Tryd.prog "ipsecgate/keys.sizes" = some [v].toArray ∧ DR W (fun b => b < W.heap.size) (.sl .i64) g_keys_sizes [v] := by
    rcases open_ints Tryd.underlying48 Tryd.underlying3 (by kernel_rfl) hd2 with ⟨_, hx⟩ | ⟨a, len, cap, zs, hcs, _, hl, hm, hz, hx, hcell, hwz⟩
    · have e : (Rows.laid_ipsecgate_keys_sizes : DataW Unit) = .nil := (Prod.mk.inj hx).1
      cases e
    · obtain ⟨e, _⟩ := Prod.mk.inj hx
      have e' : (DataW.slice (lits (H := Unit) .i64 g_keys_sizes) [] : DataW Unit) = .slice (lits .i64 (zs.take len)) (lits .i64 (zs.drop len)) := e
      simp only [DataW.slice.injEq] at e'
      have ht : zs.take len = g_keys_sizes := (lits_inj e'.1).symm
      have htl : (zs.take len).length = 6 := by rw [ht]; rfl
      have hzl : len ≤ zs.length := by
        rw [hz]; split <;> omega
      have hlen : len = 6 := by rw [List.length_take] at htl; omega
      subst hlen
      have hmm : maxLen = 9223372036854775807 := rfl
      obtain ⟨b, o, s⟩ := a
      have h0 := hcell 0 (by omega)
      have hs : s = none := by simpa [Addr.add] using World.cell?_spot h0
      subst hs
      have hb : b < W.heap.size := World.block_lt_of_cell? W _ (by simpa [Addr.add] using h0)
      refine ⟨.slice (some ⟨b, o, none⟩) 6 cap, by rw [hv2, ← Array.toArray_toList (xs := cs2), hcs], some ⟨b, o, none⟩, cap, by rfl, hl, hm, fun _ => ?_⟩
      refine ⟨b, o, (zs.take 6).map fun u => [Value.int .i64 u], rfl, hb, hb, by rw [← ht]; exact dr_i64s _ fun z hz => hwz z (List.mem_of_mem_take hz), fun j u hu => ?_⟩
      rw [flat_i64s] at hu
      have hj : j < 6 := by
        have := (List.getElem?_eq_some_iff.1 hu).1
        simp at this
        omega
      have hcj := hcell j (by omega)
      rw [Addr.add_lit] at hcj
      rw [hcj]
      simp only [List.getElem?_map, List.getElem?_take, hj, if_true, List.getElem?_eq_getElem (show j < zs.length by omega), Option.map_some, Option.some.injEq] at hu
      rw [← hu]
      simp only [List.getD, List.getElem?_eq_getElem (show j < zs.length by omega), Option.getD_some]
  rw [dC] at hd0
  rw [dI] at hd1
  have e0 := Lib.cells_of_tab Tryd.underlying92 Tryd.underlying33 cellsE cells92 hd0
  have e1 := Lib.cells_of_tab Tryd.underlying34 Tryd.underlying33 cellsE cells34 hd1
  have i0 : W.var? Tryd.prog "ipsecgate/sha256.constants" = some (g_sha256_constants.map fun u => Value.int .u32 (u.toNat : Int)).toArray := by
    rw [hv0, ← Array.toArray_toList (xs := cs0), e0]; simp [zC, Function.comp_def]
  have i1 : W.var? Tryd.prog "ipsecgate/sha256.initial" = some (g_sha256_initial.map fun u => Value.int .u32 (u.toNat : Int)).toArray := by
    rw [hv1, ← Array.toArray_toList (xs := cs1), e1]; simp [zI, Function.comp_def]
  intro g d hl
  have hl' : look g [((0 : Nat), (⟨.arr 8 .u32, g_sha256_initial⟩ : Dt)), (1, ⟨.arr 64 .u32, g_sha256_constants⟩), (2, ⟨.sl .i64, g_keys_sizes⟩)] = some d := hl
  by_cases h0 : g = 0
  · subst h0
    obtain rfl : _ = d := Option.some.inj hl'
    exact sr_var gI i1 (dr_arr_u32 rfl) (by simp [g_sha256_initial])
  · by_cases h1 : g = 1
    · subst h1
      obtain rfl : _ = d := Option.some.inj hl'
      exact sr_var gC i0 (dr_arr_u32 rfl) (by simp [g_sha256_constants])
    · by_cases h2 : g = 2
      · subst h2
        obtain rfl : _ = d := Option.some.inj hl'
        obtain ⟨v, i2, hd⟩ := i2
        exact sr_var gS i2 hd (by simp)
      have : look g [((0 : Nat), (⟨.arr 8 .u32, g_sha256_initial⟩ : Dt)), (1, ⟨.arr 64 .u32, g_sha256_constants⟩), (2, ⟨.sl .i64, g_keys_sizes⟩)] = none := by
        have e0 : Nat.beq 0 g = false := by
          rw [Bool.eq_false_iff]; intro e; exact h0 (Nat.eq_of_beq_eq_true e).symm
        have e1 : Nat.beq 1 g = false := by
          rw [Bool.eq_false_iff]; intro e; exact h1 (Nat.eq_of_beq_eq_true e).symm
        have e2 : Nat.beq 2 g = false := by
          rw [Bool.eq_false_iff]; intro e; exact h2 (Nat.eq_of_beq_eq_true e).symm
        simp only [look, e0, e1, e2, cond_false]
      rw [this] at hl'
      cases hl'
end Go.Proofs.YtlamdneheilahaaDoor.Pl
