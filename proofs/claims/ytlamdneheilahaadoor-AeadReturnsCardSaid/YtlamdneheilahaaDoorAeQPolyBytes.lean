/- Plain: a tag as bytes and as a number. -/
import Derived.Test.YtlamdneheilahaaDoorAeQPolySum
set_option linter.unusedVariables false
set_option linter.unusedSimpArgs false
namespace Go.Proofs.YtlamdneheilahaaDoor.Pl
open Go Poly
theorem le_lt (l : List UInt8) : le (ns l) < 256 ^ l.length := by
  induction l with
  | nil => simp [ns, le]
  | cons x l ih =>
    simp only [ns, List.map_cons, le, List.length_cons, Nat.pow_succ] at ih ⊢
    have := x.toNat_lt
    omega
theorem le_dig (l : List UInt8) (k : Nat) : le (ns l) / 256 ^ k % 256 = (l.getD k 0).toNat := by
  induction l generalizing k with
  | nil => simp [ns, le]
  | cons x l ih =>
    have := x.toNat_lt
    simp only [ns, List.map_cons, le]
    cases k with
    | zero => simp <;> omega
    | succ k =>
      rw [Nat.pow_succ', ← Nat.div_div_eq_div_mul, show (x.toNat + 256 * le (l.map UInt8.toNat)) / 256 = le (l.map UInt8.toNat) by omega]
      exact ih k
theorem tagB_get (v : Nat) {k : Nat} (hk : k < 16) : ((tagB v).getD k 0).toNat = v / 256 ^ k % 256 := by
  unfold tagB
  simp only [List.getD, List.getElem?_map, List.getElem?_range hk, Option.map_some, Option.getD_some]
  rw [UInt8.toNat_ofNat']
  exact Nat.mod_mod ..
theorem tagB_le {l : List UInt8} (h : l.length = 16) : tagB (le (ns l)) = l := by
  apply List.ext_getElem
  · rw [tagB_len, h]
  · intro k h1 h2
    rw [tagB_len] at h1
    have e := tagB_get (le (ns l)) h1
    rw [le_dig] at e
    have e2 := UInt8.toNat_inj.1 e
    simpa [List.getD, h2, tagB_len, h1] using e2
end Go.Proofs.YtlamdneheilahaaDoor.Pl
