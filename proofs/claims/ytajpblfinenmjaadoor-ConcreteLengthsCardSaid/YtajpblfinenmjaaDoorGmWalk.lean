/- The ghost machine: a law's arguments that are numbers, laid variables, and the law's walk. -/
import Derived.Test.YtajpblfinenmjaaDoorGmArgs
import Derived.Lib.LaidTab
set_option linter.unusedVariables false
set_option linter.unusedSimpArgs false
namespace Go.Proofs.YtajpblfinenmjaaDoor
open Go
section
variable {w : World} {Z : Nat → Prop} {ob : Nat → Value}
theorem sr_arg_i64 {a : Int} (h : -9223372036854775808 ≤ a) (h' : a ≤ 9223372036854775807) : SR w Z ob (.data .i64 a) (.int .i64 a) := ⟨_, ⟨rfl, h, h'⟩, rfl⟩
theorem sr_arg_u8 {a : Int} (h : 0 ≤ a) (h' : a ≤ 255) : SR w Z ob (.data .u8 (UInt8.ofNat a.toNat)) (.int .u8 a) := ⟨[.int .u8 a], by
  show [Value.int .u8 a] = [Value.int .u8 ((UInt8.ofNat a.toNat).toNat : Int)]
  rw [UInt8.toNat_ofNat', show ((a.toNat % 2 ^ 8 : Nat) : Int) = a by omega], rfl⟩
theorem sr_arg_u32 {a : Int} (h : 0 ≤ a) (h' : a ≤ 4294967295) : SR w Z ob (.data .u32 (UInt32.ofNat a.toNat)) (.int .u32 a) := ⟨[.int .u32 a], by
  show [Value.int .u32 a] = [Value.int .u32 ((UInt32.ofNat a.toNat).toNat : Int)]
  rw [UInt32.toNat_ofNat', show ((a.toNat % 2 ^ 32 : Nat) : Int) = a by omega], rfl⟩
theorem sr_arg_u64 {a : Int} (h : 0 ≤ a) (h' : a ≤ 18446744073709551615) : SR w Z ob (.data .u64 (UInt64.ofNat a.toNat)) (.int .u64 a) := ⟨[.int .u64 a], by
  show [Value.int .u64 a] = [Value.int .u64 ((UInt64.ofNat a.toNat).toNat : Int)]
  rw [UInt64.toNat_ofNat', show ((a.toNat % 2 ^ 64 : Nat) : Int) = a by omega], rfl⟩
theorem sr_arg_bool {a : Bool} : SR w Z ob (.data .bool a) (.bool a) := ⟨_, rfl, rfl⟩
theorem dr_u32s : ∀ l : List UInt32, All2 (DR w Z .u32) l (l.map fun u => [Value.int .u32 (u.toNat : Int)])
  | [] => trivial
  | _ :: l => ⟨rfl, dr_u32s l⟩
theorem flat_u32s : ∀ l : List UInt32, (l.map fun u => [Value.int .u32 (u.toNat : Int)]).flatten = l.map fun u => Value.int .u32 (u.toNat : Int)
  | [] => rfl
  | _ :: l => by simp only [List.map_cons, List.flatten_cons, flat_u32s l]; rfl
theorem dr_arr_u32 {n : Nat} {l : List UInt32} (h : l.length = n) : DR w Z (.arr n .u32) l (l.map fun u => Value.int .u32 (u.toNat : Int)) := ⟨h, _, (flat_u32s l).symm, dr_u32s l⟩
theorem sr_var {P : Program} {name : String} {g : Nat} {vs : List Value} {t : Ty} {x : t.den} (hg : P.globalNamed name = some g) (hv : w.var? P name = some vs.toArray) (hd : DR w (fun b => b < w.heap.size) t x vs) (hne : 0 < vs.length) :
    SR w (fun b => b < w.heap.size) ob (.fp t x) (.pointer (some ⟨g, 0, none⟩)) := by
  have hc : ∀ j : Nat, w.cell? ⟨g, j, none⟩ = vs[j]? := fun j => by
    have := World.var?_cell hg hv j
    simpa using this
  have hb : g < w.heap.size := World.block_lt_of_cell? w _ ((hc 0).trans (List.getElem?_eq_getElem hne))
  exact ⟨g, 0, vs, rfl, hb, hb, hd, fun j u hu => by rw [Nat.zero_add, hc, hu]⟩
theorem len_of {A : Option Addr} {n c : Nat} {l : List UInt8} (hr : Rd w 1 A n (bvs l)) (hn : n ≤ c) (hc : c ≤ maxLen) : l.length ≤ 9223372036854775807 := by
  have : l.length = n := by have := hr.1; simpa [bvs] using this
  have : maxLen = 9223372036854775807 := rfl
  omega
end
end Go.Proofs.YtajpblfinenmjaaDoor
