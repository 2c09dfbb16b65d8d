/- From a row's reading of an argument of type api.Packet to this claim's words. -/
import Derived.Test.YtgbkkfpheahdfaaFrame
import Derived.Test.YtgbkkfpheahdfaaGmWalk
set_option linter.unusedVariables false
set_option linter.unusedSimpArgs false
namespace Go.Proofs.Ytgbkkfpheahdfaa
open Go.RowKit Go.ChangeShapes Go.WideShapes
abbrev tyAd : Ty := .pair .i64 (.pair .u64 (.pair .u64 .unit))
abbrev tyPk : Ty := .pair tyAd (.pair tyAd (.pair .i64 (.pair .i64 (.pair .i64 .unit))))
theorem cells_int : Try.prog.cellsOf 3 = 1 := by kernel_rfl
theorem cells_u64 : Try.prog.cellsOf 26 = 1 := by kernel_rfl
theorem cells_ad : Try.prog.cellsOf 28 = 3 := by kernel_rfl
theorem cells_pk : Try.prog.cellsOf 30 = 9 := by kernel_rfl
section
variable {H : Type} {enc : TypeId × Value → H} {W : World} {base : Nat} {sp : Nat → Bool} {held : Bool}
set_option maxRecDepth 100000 in
theorem cells_of_ad {fuel : Nat} {cs : List Value} {x : DataW H × List MemPlace} (h : DataW.trod enc Try.prog W base sp held fuel 28 cs = some x) :
    ∃ i u v : Int, cs = [.int .i64 i, .int .u64 u, .int .u64 v] ∧ (Lit.int .i64 i).wf = true ∧ (Lit.int .u64 u).wf = true ∧ (Lit.int .u64 v).wf = true := by
  obtain ⟨ys, m, _, _, hl, hl2, hf⟩ := DataW.trod_struct Try.underlying28 h
  rw [cells_ad] at hl
  match cs, hl with
  | [c0, c1, c2], _ =>
  match ys, hl2 with
  | [y0, y1, y2], _ =>
  have h0 := hf 0 _ rfl
  have h1 := hf 1 _ rfl
  have h2 := hf 2 _ rfl
  simp [cells_int, cells_u64] at h0 h1 h2
  obtain ⟨i, e0, _, w0⟩ := DataW.trod_int Try.underlying3 h0
  obtain ⟨u, e1, _, w1⟩ := DataW.trod_int Try.underlying26 h1
  obtain ⟨v, e2, _, w2⟩ := DataW.trod_int Try.underlying26 h2
  simp at e0 e1 e2
  subst e0 e1 e2
  exact ⟨i, u, v, rfl, w0, w1, w2⟩
variable {Z : Nat → Prop} {ob : Nat → Value}
theorem dr_u64 {a : Int} (h : (Lit.int .u64 a).wf = true) : DR W Z .u64 (UInt64.ofNat a.toNat) [.int .u64 a] := by
  have hb := bounds_u64 h
  show [Value.int .u64 a] = [Value.int .u64 ((UInt64.ofNat a.toNat).toNat : Int)]
  rw [UInt64.toNat_ofNat', show ((a.toNat % 2 ^ 64 : Nat) : Int) = a by omega]
theorem dr_i64 {a : Int} (h : (Lit.int .i64 a).wf = true) : DR W Z .i64 a [.int .i64 a] := ⟨rfl, (bounds_i64 h).1, (bounds_i64 h).2⟩
theorem dr_ad {i u v : Int} (w0 : (Lit.int .i64 i).wf = true) (w1 : (Lit.int .u64 u).wf = true) (w2 : (Lit.int .u64 v).wf = true) :
    DR W Z tyAd (i, UInt64.ofNat u.toNat, UInt64.ofNat v.toNat, ()) [.int .i64 i, .int .u64 u, .int .u64 v] :=
  ⟨[.int .i64 i], [.int .u64 u, .int .u64 v], rfl, dr_i64 w0, [.int .u64 u], [.int .u64 v], rfl, dr_u64 w1, [.int .u64 v], [], rfl, dr_u64 w2, rfl⟩
set_option maxRecDepth 100000 in
theorem sr_of_pkt {r : Reach} {b0 : Nat} {v : Value} {d : DataW H} {p : List MemPlace} (hval : Value.okWide Try.prog W r b0 30 v) (h : DataW.Trod enc Try.prog W base sp held 30 v d p) :
    ∃ (a : Ty.den tyPk) (cs : Array Value), v = .agg cs ∧ SR W Z ob (.data tyPk a) (.agg cs) := by
  obtain ⟨cs, rfl, hsz⟩ := okWide_struct Try.underlying30 hval
  obtain ⟨fuel, hf0⟩ := h
  obtain ⟨ys, m, _, _, hl, hl2, hf⟩ := DataW.trod_struct Try.underlying30 hf0
  rw [cells_pk] at hsz
  clear hl hf0 hval
  obtain ⟨l⟩ := cs
  simp only [Value.cells] at hf
  match l, hsz with
  | [c0, c1, c2, c3, c4, c5, c6, c7, c8], _ =>
  match ys, hl2 with
  | [y0, y1, y2, y3, y4], _ =>
  have h0 := hf 0 _ rfl
  have h1 := hf 1 _ rfl
  have h2 := hf 2 _ rfl
  have h3 := hf 3 _ rfl
  have h4 := hf 4 _ rfl
  simp [cells_int, cells_ad] at h0 h1 h2 h3 h4
  obtain ⟨i0, u0, v0, e0, a0, a1, a2⟩ := cells_of_ad h0
  obtain ⟨i1, u1, v1, e1, b0, b1, b2⟩ := cells_of_ad h1
  obtain ⟨n2, e2, _, w2⟩ := DataW.trod_int Try.underlying3 h2
  obtain ⟨n3, e3, _, w3⟩ := DataW.trod_int Try.underlying3 h3
  obtain ⟨n4, e4, _, w4⟩ := DataW.trod_int Try.underlying3 h4
  simp at e0 e1 e2 e3 e4
  obtain ⟨rfl, rfl, rfl⟩ := e0
  obtain ⟨rfl, rfl, rfl⟩ := e1
  subst e2 e3 e4
  exact ⟨((i0, UInt64.ofNat u0.toNat, UInt64.ofNat v0.toNat, ()), (i1, UInt64.ofNat u1.toNat, UInt64.ofNat v1.toNat, ()), n2, n3, n4, ()), _, rfl, _,
    ⟨_, [.int .i64 i1, .int .u64 u1, .int .u64 v1, .int .i64 n2, .int .i64 n3, .int .i64 n4], rfl, dr_ad a0 a1 a2, _, [.int .i64 n2, .int .i64 n3, .int .i64 n4], rfl, dr_ad b0 b1 b2, _, [.int .i64 n3, .int .i64 n4], rfl, dr_i64 w2, _, [.int .i64 n4], rfl, dr_i64 w3, _, [], rfl, dr_i64 w4, rfl⟩, rfl⟩
end
end Go.Proofs.Ytgbkkfpheahdfaa
