/- The ghost machine: an evaluator of the program's text over plain data, and its soundness. -/
import Derived.Test.YtehbbcdhahnkgaaGreatHmVal
import Derived.BigQuiet
import Derived.Deep.QuietTactic
import Derived.Test.YtehbbcdhahnkgaaGreatHmV
set_option linter.unusedVariables false
set_option linter.unusedSimpArgs false
namespace Go.Proofs.YtehbbcdhahnkgaaGreat.Hm
open Go Go.RowKit
structure CdH (w : World) (g : Nat) (A : Option Addr) (n c at_ : Nat) : Prop where
 blk : w.heap[g]? = some (.cells #[.slice A n c, .int .i64 at_] 99 (0, 0))
 le : at_ ≤ n
 nc : n ≤ c
 mx : c ≤ 9223372036854775807
theorem CdH.cells {w : World} {g : Nat} {A : Option Addr} {n c z : Nat} (h : CdH w g A n c z) : w.cell? ⟨g, 0, none⟩ = some (.slice A n c) ∧ w.cell? ⟨g, 1, none⟩ = some (.int .i64 z) ∧ w.frozen? ⟨g, 1, none⟩ = false := by
 refine ⟨?_, ?_, ?_⟩
 ·rw [cell_of_row w g 0 _ _ _ h.blk]; rfl
 ·rw [cell_of_row w g 1 _ _ _ h.blk]; rfl
 ·simp [World.frozen?, h.blk]
set_option maxHeartbeats 1000000 in
theorem left_calls (g : Nat) (A : Option Addr) (n c z : Nat) (w : World) (h : CdH w g A n c z) :
  Calls Tryz.prog 19 #[.pointer (some ⟨g, 0, none⟩)] w fun e w' => e = .returned (.bool (decide (z < n))) ∧ ∃ k, w' = w.drewN k := by
 obtain ⟨c0, c1, _⟩ := h.cells
 go_enter Tryz.func19, Tryz.ntmps19
 go_wp2_with fail
 go_quiet (fail)
 go_wp2_with fail
 go_ret
 exact ⟨by simp, _, rfl⟩
set_option maxHeartbeats 1000000 in
theorem next_some (g : Nat) (A : Option Addr) (n c z : Nat) (w : World) (h : CdH w g A n c z) (m x : Int) (hm : 1 ≤ m) (hm2 : m ≤ 256) (hz : z < n) (b o : Nat) (hA : A = some ⟨b, o, none⟩) (hb : b ≠ g) (x0 : 0 ≤ x) (x1 : x ≤ 255) (hc : w.cell? ⟨b, o + z, none⟩ = some (.int .u8 x)) :
  Calls Tryz.prog 30 #[.pointer (some ⟨g, 0, none⟩), .int .i64 m] w fun e w' => e = .returned (.int .i64 (x % m)) ∧ w'.heap[g]? = some (.cells #[.slice A n c, .int .i64 ((z : Int) + 1)] 99 (0, 0)) ∧ (∀ k, k ≠ g → w'.heap[k]? = w.heap[k]?) ∧ Wo w w' := by
 subst hA
 obtain ⟨c0, c1, f1⟩ := h.cells
 have hle := h.le; have hnc := h.nc; have hmx := h.mx
 have hc' : (w.setCell ⟨g, 1, none⟩ (.int .i64 ((z : Int) + 1))).cell? ⟨b, o + z, none⟩ = some (.int .u8 x) := by
  rw [World.cell?_of_block (Below.heap_setCell _ _ _ _ hb)]; exact hc
 have hne : ¬ g = b := fun e => hb e.symm
 have hd1 : decide (z < n) = true := by simpa using hz
 go_enter Tryz.func30, Tryz.ntmps30
 go_wp2_with fail
 refine (left_calls g _ n c z _ h).mono ?_
 rintro e w' ⟨rfl, k, rfl⟩
 go_wp2_with fail
 go_quiet (fail)
 go_wp2_with fail
 go_ret
 have hb2 : (w.setCell ⟨g, 1, none⟩ (.int .i64 ((z : Int) + 1))).heap[g]? = some (.cells #[.slice (some ⟨b, o, none⟩) n c, .int .i64 ((z : Int) + 1)] 99 (0, 0)) := by
  simp only [World.setCell, Array.getElem?_modify, if_true, h.blk, Option.map_some]
  rfl
 refine ⟨rfl, hb2, fun i hne => Below.heap_setCell w ⟨g, 1, none⟩ _ i hne, rfl, rfl, rfl⟩
set_option maxHeartbeats 1000000 in
theorem next_none (g : Nat) (A : Option Addr) (n c z : Nat) (w : World) (h : CdH w g A n c z) (m : Int) (hz : ¬ z < n) :
  Calls Tryz.prog 30 #[.pointer (some ⟨g, 0, none⟩), .int .i64 m] w fun e w' => e = .returned (.int .i64 0) ∧ w'.heap[g]? = some (.cells #[.slice A n c, .int .i64 (z : Int)] 99 (0, 0)) ∧ (∀ k, k ≠ g → w'.heap[k]? = w.heap[k]?) ∧ Wo w w' := by
 obtain ⟨c0, c1, _⟩ := h.cells
 have hle := h.le; have hnc := h.nc; have hmx := h.mx
 have hd1 : decide (z < n) = false := by simpa using hz
 go_enter Tryz.func30, Tryz.ntmps30
 go_wp2_with fail
 refine (left_calls g _ n c z _ h).mono ?_
 rintro e w' ⟨rfl, k, rfl⟩
 go_wp2_with fail
 go_ret
 exact ⟨rfl, h.blk, fun i _ => rfl, rfl, rfl, rfl⟩
def LsAt (w : World) (l : List Int) (A : Option Addr) (n : Nat) : Prop := n = l.length ∧ (∀ x ∈ l, 0 ≤ x ∧ x ≤ 255) ∧ (0 < n → ∃ b o, A = some ⟨b, o, none⟩ ∧ b < w.heap.size ∧ ∀ (j : Nat) (x : Int), l[j]? = some x → w.cell? ⟨b, o + j, none⟩ = some (.int .u8 x))
def dv (l : List Int) (z : Nat) (m : Int) : Int := match l[z]? with
 | some x => x % m
 | none => 0
def da (l : List Int) (z : Nat) : Nat := if z < l.length then z + 1 else z
theorem dv_lt {l : List Int} (z : Nat) {m : Int} (hm : 1 ≤ m) : 0 ≤ dv l z m ∧ dv l z m < m := by
 unfold dv
 split
 ·exact ⟨Int.emod_nonneg _ (by omega), Int.emod_lt_of_pos _ (by omega)⟩
 ·omega
theorem da_le {l : List Int} {z : Nat} (hz : z ≤ l.length) : da l z ≤ l.length := by unfold da; split <;> omega
theorem next_calls (l : List Int) (g : Nat) (A : Option Addr) (n c z : Nat) (w w0 : World) (hl : LsAt w0 l A n) (hnc : n ≤ c) (hmx : c ≤ 9223372036854775807) (hz : z ≤ n) (hb : Below w0.heap.size w0 w) (hg : w0.heap.size ≤ g) (h : w.heap[g]? = some (.cells #[.slice A n c, .int .i64 (z : Int)] 99 (0, 0))) (m : Int) (hm : 1 ≤ m) (hm2 : m ≤ 256) :
  Calls Tryz.prog 30 #[.pointer (some ⟨g, 0, none⟩), .int .i64 m] w fun e w' => e = .returned (.int .i64 (dv l z m)) ∧ w'.heap[g]? = some (.cells #[.slice A n c, .int .i64 (da l z : Int)] 99 (0, 0)) ∧ (∀ k, k ≠ g → w'.heap[k]? = w.heap[k]?) ∧ Wo w w' := by
 obtain ⟨rfl, hr, hs⟩ := hl
 have hcd : CdH w g A l.length c z := by
  exact ⟨h, hz, hnc, hmx⟩
 by_cases hlt : z < l.length
 ·obtain ⟨b, o, rfl, hbl, hx⟩ := hs (by omega)
  have hzg : l[z]? = some l[z] := List.getElem?_eq_getElem hlt
  have := next_some g _ l.length c z w hcd m l[z] hm hm2 hlt b o rfl (by omega) (hr _ (List.getElem_mem hlt)).1 (hr _ (List.getElem_mem hlt)).2 ((hb.cell (p := ⟨b, o + z, none⟩) hbl).trans (hx z _ hzg))
  unfold dv da
  rw [hzg, if_pos hlt]
  simpa using this
 ·have := next_none g A l.length c z w hcd m hlt
  unfold dv da
  rw [List.getElem?_eq_none (by omega), if_neg hlt]
  exact this
end Go.Proofs.YtehbbcdhahnkgaaGreat.Hm

namespace Go.Proofs.YtehbbcdhahnkgaaGreat.Hm
open Go
open Go.RowKit (Below)
theorem nxOf_mem {at_ : IV} {n : Int} : ∀ {l : List ((IV × Int) × (IV × IV))} {r : IV × IV}, nxOf at_ n l = some r → ((at_, n), r) ∈ l
 | [], _, h => by cases h
 | p :: l, r, h => by
  simp only [nxOf] at h
  cases hb : (IV.same p.1.1 at_ && decide (p.1.2 = n)) with
  | true =>
   rw [hb] at h; cases h
   simp only [Bool.and_eq_true] at hb
   rw [← same_eq hb.1, ← of_decide_eq_true hb.2]; simp
  | false => rw [hb] at h; exact List.mem_cons_of_mem _ (nxOf_mem h)
theorem nxOk_of {ρ : En} {X : NX} (hf : X.f = 30) (he : X.el = 99) {l : List Int} {A : Option Addr} {n c : Nat} (h6 : ρ.vals X.j = .slice A n c) (hl : LsAt ρ.base l A n) (hnc : n ≤ c) (hmx : c ≤ 9223372036854775807)
  (htab : ∀ p ∈ X.tab, ∃ z : Nat, z ≤ l.length ∧ p.1.1.ev ρ = z ∧ 1 ≤ p.1.2 ∧ p.1.2 ≤ 256 ∧ p.2.1.ev ρ = dv l z p.1.2 ∧ p.2.2.ev ρ = da l z) : NxOk Tryz.prog ρ X := by
 refine ⟨⟨_, by rw [hf]; exact Tryz.func30, by kernel_rfl, by kernel_rfl⟩, by rw [he]; kernel_rfl, fun at_ m v at2 ho => ?_⟩
 obtain ⟨z, z1, z2, z3, z4, z5, z6⟩ := htab _ (nxOf_mem ho)
 have hd := dv_lt (l := l) z z3
 have ha := da_le z1
 have hn : n = l.length := hl.1
 have z4 : m ≤ 256 := z4
 have z2 : at_.ev ρ = z := z2
 have z5 : v.ev ρ = dv l z m := z5
 have z6 : at2.ev ρ = da l z := z6
 rw [z5, z6, z2]
 refine ⟨inKind_iff.2 ⟨by show (-9223372036854775808 : Int) ≤ _; have := hd.1; simp only at this; omega, by show _ ≤ (9223372036854775807 : Int); have := hd.2; simp only at this; omega⟩, inKind_iff.2 ⟨by show (-9223372036854775808 : Int) ≤ _; omega, by show _ ≤ (9223372036854775807 : Int); omega⟩, fun w b hw hbel hb => ?_⟩
 rw [hf]
 rw [h6, he] at hw ⊢
 exact next_calls l b A n c z w ρ.base hl hnc hmx (by omega) hbel hb hw m z3 z4
end Go.Proofs.YtehbbcdhahnkgaaGreat.Hm
