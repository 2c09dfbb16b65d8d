/- What the laid variables hold: the tables of SHA-256. -/
import Derived.Test.YtajpblfinenmjaaDoorGmWalk
import Derived.Test.YtajpblfinenmjaaDoorFnsConcreteAgreesA
import Derived.Test.YtajpblfinenmjaaDoorRows
import Derived.LaidMore
import Derived.KernelRfl
set_option linter.unusedVariables false
set_option linter.unusedSimpArgs false
namespace Go.Proofs.YtajpblfinenmjaaDoor.Pl
open Go
theorem gI : Tryd.prog.globalNamed "ipsecgate/sha256.initial" = some 0 := by kernel_rfl
theorem gC : Tryd.prog.globalNamed "ipsecgate/sha256.constants" = some 1 := by kernel_rfl
theorem tI : (Tryd.prog.globals[0]?).map (·.type) = some 57 := by kernel_rfl
theorem tC : (Tryd.prog.globals[1]?).map (·.type) = some 70 := by kernel_rfl
theorem cells57 : Tryd.prog.cellsOf 57 = 8 := by kernel_rfl
theorem cells70 : Tryd.prog.cellsOf 70 = 64 := by kernel_rfl
theorem cellsE : Tryd.prog.cellsOf 56 = 1 := by kernel_rfl
noncomputable def zI : List Int := g_sha256_initial.map fun u => (u.toNat : Int)
noncomputable def zC : List Int := g_sha256_constants.map fun u => (u.toNat : Int)
theorem dI {H : Type} : (Rows.laid_ipsecgate_sha256_initial : DataW H) = Lib.tabData .u32 zI := by kernel_rfl
theorem dC {H : Type} : (Rows.laid_ipsecgate_sha256_constants : DataW H) = Lib.tabData .u32 zC := by kernel_rfl
theorem globs_ok {W : World} (h : laidMetH Tryd.prog [("ipsecgate/chacha.quarters", Rows.laid_ipsecgate_chacha_quarters), ("ipsecgate/sha256.constants", Rows.laid_ipsecgate_sha256_constants), ("ipsecgate/sha256.initial", Rows.laid_ipsecgate_sha256_initial)] W) :
    ∀ g d, look g G_globs = some d → SR W (fun b => b < W.heap.size) (fun _ => undef) (.fp d.1 d.2) (.pointer (some ⟨g, 0, none⟩)) := by
  rw [MakeChecks.laidMetH_plain _ _ _ (by kernel_rfl)] at h
  obtain ⟨ps, ⟨_, _, _, _, _, _, _, _, _, _, ⟨g0, t0, cs0, f0, p0, q0, hg0, ht0, hv0, hd0, ⟨g1, t1, cs1, f1, p1, q1, hg1, ht1, hv1, hd1, _, _⟩, _⟩, _⟩, _, _⟩ := h
  obtain rfl := Option.some.inj (gC.symm.trans hg0)
  obtain rfl := Option.some.inj (gI.symm.trans hg1)
  obtain rfl := Option.some.inj (tC.symm.trans ht0)
  obtain rfl := Option.some.inj (tI.symm.trans ht1)
  rw [dC] at hd0
  rw [dI] at hd1
  have e0 := Lib.cells_of_tab Tryd.underlying70 Tryd.underlying56 cellsE cells70 hd0
  have e1 := Lib.cells_of_tab Tryd.underlying57 Tryd.underlying56 cellsE cells57 hd1
  have i0 : W.var? Tryd.prog "ipsecgate/sha256.constants" = some (g_sha256_constants.map fun u => Value.int .u32 (u.toNat : Int)).toArray := by
    rw [hv0, ← Array.toArray_toList (xs := cs0), e0]; simp [zC, Function.comp_def]
  have i1 : W.var? Tryd.prog "ipsecgate/sha256.initial" = some (g_sha256_initial.map fun u => Value.int .u32 (u.toNat : Int)).toArray := by
    rw [hv1, ← Array.toArray_toList (xs := cs1), e1]; simp [zI, Function.comp_def]
  intro g d hl
  have hl' : look g [((0 : Nat), (⟨.arr 8 .u32, g_sha256_initial⟩ : Dt)), (1, ⟨.arr 64 .u32, g_sha256_constants⟩)] = some d := hl
  by_cases h0 : g = 0
  · subst h0
    obtain rfl : _ = d := Option.some.inj hl'
    exact sr_var gI i1 (dr_arr_u32 rfl) (by simp [g_sha256_initial])
  · by_cases h1 : g = 1
    · subst h1
      obtain rfl : _ = d := Option.some.inj hl'
      exact sr_var gC i0 (dr_arr_u32 rfl) (by simp [g_sha256_constants])
    · have : look g [((0 : Nat), (⟨.arr 8 .u32, g_sha256_initial⟩ : Dt)), (1, ⟨.arr 64 .u32, g_sha256_constants⟩)] = none := by
        have e0 : Nat.beq 0 g = false := by
          rw [Bool.eq_false_iff]; intro e; exact h0 (Nat.eq_of_beq_eq_true e).symm
        have e1 : Nat.beq 1 g = false := by
          rw [Bool.eq_false_iff]; intro e; exact h1 (Nat.eq_of_beq_eq_true e).symm
        simp only [look, e0, e1, cond_false]
      rw [this] at hl'
      cases hl'
end Go.Proofs.YtajpblfinenmjaaDoor.Pl
