/- Poly1305: the tag as a number and its bytes; plain. -/
import Derived.Test.YtajpblfinenmjaaDoorPolyRed
set_option linter.unusedVariables false
set_option linter.unusedSimpArgs false
namespace Go.Proofs.YtajpblfinenmjaaDoor.Poly

/-- What the pieces make of a number. -/
def acc (r : Nat) (v : Nat) (l : List UInt8) : Nat :=
  match l with
  | [] => v
  | x :: t => acc r ((v + le (((x :: t).take 16).map UInt8.toNat ++ [1])) * r % pp) ((x :: t).drop 16)
termination_by l.length
decreasing_by simp; omega
theorem acc_nil (r v : Nat) : acc r v [] = v := by rw [acc]
theorem acc_step (r v : Nat) {l : List UInt8} (h : l ≠ []) : acc r v l = acc r ((v + le ((l.take 16).map UInt8.toNat ++ [1])) * r % pp) (l.drop 16) := by
  match l, h with
  | x :: t, _ => rw [acc]

/-- The bits that the program takes for a byte of the tag. -/
def outb (l : List Nat) (k : Nat) : Nat := l.getD (8 * k / 26) 0 / 2 ^ (8 * k % 26) + (if 18 < 8 * k % 26 then l.getD (8 * k / 26 + 1) 0 * 2 ^ (26 - 8 * k % 26) else 0)
theorem outb_val {l : List Nat} (h : l.length = 5) (hlow : ∀ i, i < 4 → l.getD i 0 ≤ 67108863) {k : Nat} (hk : k < 16) : outb l k % 256 = v5 l / 256 ^ k % 256 := by
  have h0 := hlow 0 (by omega); have h1 := hlow 1 (by omega); have h2 := hlow 2 (by omega); have h3 := hlow 3 (by omega)
  obtain ⟨a, b, c, d, e, rfl⟩ := list5 h
  simp only [List.getD_cons_zero, List.getD_cons_succ] at h0 h1 h2 h3
  clear hlow h
  rcases (by omega : k = 0 ∨ k = 1 ∨ k = 2 ∨ k = 3 ∨ k = 4 ∨ k = 5 ∨ k = 6 ∨ k = 7 ∨ k = 8 ∨ k = 9 ∨ k = 10 ∨ k = 11 ∨ k = 12 ∨ k = 13 ∨ k = 14 ∨ k = 15) with rfl | rfl | rfl | rfl | rfl | rfl | rfl | rfl | rfl | rfl | rfl | rfl | rfl | rfl | rfl | rfl
  · show (a / 1 + 0) % 256 = v5 [a, b, c, d, e] / 1 % 256
    simp only [v5, List.getD_cons_zero, List.getD_cons_succ]; omega
  · show (a / 256 + 0) % 256 = v5 [a, b, c, d, e] / 256 % 256
    simp only [v5, List.getD_cons_zero, List.getD_cons_succ]; omega
  · show (a / 65536 + 0) % 256 = v5 [a, b, c, d, e] / 65536 % 256
    simp only [v5, List.getD_cons_zero, List.getD_cons_succ]; omega
  · show (a / 16777216 + b * 4) % 256 = v5 [a, b, c, d, e] / 16777216 % 256
    simp only [v5, List.getD_cons_zero, List.getD_cons_succ]; omega
  · show (b / 64 + 0) % 256 = v5 [a, b, c, d, e] / 4294967296 % 256
    simp only [v5, List.getD_cons_zero, List.getD_cons_succ]; omega
  · show (b / 16384 + 0) % 256 = v5 [a, b, c, d, e] / 1099511627776 % 256
    simp only [v5, List.getD_cons_zero, List.getD_cons_succ]; omega
  · show (b / 4194304 + c * 16) % 256 = v5 [a, b, c, d, e] / 281474976710656 % 256
    simp only [v5, List.getD_cons_zero, List.getD_cons_succ]; omega
  · show (c / 16 + 0) % 256 = v5 [a, b, c, d, e] / 72057594037927936 % 256
    simp only [v5, List.getD_cons_zero, List.getD_cons_succ]; omega
  · show (c / 4096 + 0) % 256 = v5 [a, b, c, d, e] / 18446744073709551616 % 256
    simp only [v5, List.getD_cons_zero, List.getD_cons_succ]; omega
  · show (c / 1048576 + d * 64) % 256 = v5 [a, b, c, d, e] / 4722366482869645213696 % 256
    simp only [v5, List.getD_cons_zero, List.getD_cons_succ]; omega
  · show (d / 4 + 0) % 256 = v5 [a, b, c, d, e] / 1208925819614629174706176 % 256
    simp only [v5, List.getD_cons_zero, List.getD_cons_succ]; omega
  · show (d / 1024 + 0) % 256 = v5 [a, b, c, d, e] / 309485009821345068724781056 % 256
    simp only [v5, List.getD_cons_zero, List.getD_cons_succ]; omega
  · show (d / 262144 + 0) % 256 = v5 [a, b, c, d, e] / 79228162514264337593543950336 % 256
    simp only [v5, List.getD_cons_zero, List.getD_cons_succ]; omega
  · show (e / 1 + 0) % 256 = v5 [a, b, c, d, e] / 20282409603651670423947251286016 % 256
    simp only [v5, List.getD_cons_zero, List.getD_cons_succ]; omega
  · show (e / 256 + 0) % 256 = v5 [a, b, c, d, e] / 5192296858534827628530496329220096 % 256
    simp only [v5, List.getD_cons_zero, List.getD_cons_succ]; omega
  · show (e / 65536 + 0) % 256 = v5 [a, b, c, d, e] / 1329227995784915872903807060280344576 % 256
    simp only [v5, List.getD_cons_zero, List.getD_cons_succ]; omega
end Go.Proofs.YtajpblfinenmjaaDoor.Poly
