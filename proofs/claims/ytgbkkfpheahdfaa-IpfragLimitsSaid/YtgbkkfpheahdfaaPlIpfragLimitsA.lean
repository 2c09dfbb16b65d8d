/- The ghost machine: an evaluator of the program's text over plain data, and its soundness. -/
import Derived.Test.YtgbkkfpheahdfaaGmLoop
import Derived.Test.YtgbkkfpheahdfaaGmInt
import Derived.KernelRfl
import Derived.Test.YtgbkkfpheahdfaaFntIpfragLimitsA
set_option linter.unusedVariables false
set_option linter.unusedSimpArgs false
/- Plain: rules by which a walk over shallow functions is decided. -/
namespace Go.Proofs.Ytgbkkfpheahdfaa.Pl
open Go
theorem dpos {p : Prop} [Decidable p] (h : p) : decide p = true := decide_eq_true h
theorem dneg {p : Prop} [Decidable p] (h : ¬ p) : decide p = false := decide_eq_false h
theorem w64_of {x : Int} (h : -9223372036854775808 ≤ x) (h' : x ≤ 9223372036854775807) : w64 x = x := w64_id h h'
theorem inR_of {i : Int} {n : Nat} (h : 0 ≤ i) (h' : i < (n : Int)) : inR i n = true := by simp [inR, h, h']
theorem room_of {n k : Nat} (h : n * k ≤ 140737488355328) : room n k = true := by simp [room, h]
end Go.Proofs.Ytgbkkfpheahdfaa.Pl

/- Plain: the pieces of IpfragLimits. -/
namespace Go.Proofs.Ytgbkkfpheahdfaa.Pl
open Go
abbrev Dc := List UInt8 × (Int × Unit)
theorem lawake : law25_awake 18446744073709551616 = some ((true, ()), ()) := by kernel_rfl
def DOk (c : Dc) : Prop := 0 ≤ c.2.1 ∧ c.1.length ≤ 1000000
theorem dnext_ok (N : Nat) {c : Dc} {n : Int} (h : DOk c) (hn : 0 < n) (hn' : n ≤ 1000) : ∃ v c', draw_Codes_Next N n c = some ((v, ()), (c', ())) ∧ 0 ≤ v ∧ v < n ∧ DOk c' := by
  obtain ⟨l, i, u⟩ := c
  obtain ⟨h1, h2⟩ := h
  simp only at h1 h2
  unfold draw_Codes_Next
  by_cases hlt : (l.length : Int) ≤ i
  · simp only [dpos hlt, cond_true]
    exact ⟨0, _, rfl, by omega, hn, h1, h2⟩
  · have e1 : w64 (i + 1) = i + 1 := w64_of (by omega) (by omega)
    have e2 : w64 (i + 1 - 1) = i := by rw [w64_of (by omega) (by omega)]; omega
    have e3 : inR i l.length = true := inR_of h1 (by omega)
    simp only [dneg hlt, cond_false, e1, e2, e3, cond_true]
    have hb := (l.getD i.toNat 0).toNat_lt
    generalize ((l.getD i.toNat 0).toNat : Nat) = b at hb
    have hm : 0 ≤ (b : Int) * n := Int.mul_nonneg (by omega) (by omega)
    have hm2 : (b : Int) * n ≤ 255 * n := Int.mul_le_mul_of_nonneg_right (by omega) (by omega)
    have e4 : w64 ((b : Int) * n) = (b : Int) * n := w64_of (by omega) (by omega)
    have e5 : ((b : Int) * n).tdiv 256 = ((b : Int) * n) / 256 := Int.tdiv_eq_ediv_of_nonneg hm
    rw [e4, e5, w64_of (by omega) (by omega)]
    refine ⟨_, _, rfl, by omega, by omega, ?_, h2⟩
    simp only; omega
theorem dnew_ok (N : Nat) (l : List UInt8) {m : Int} (h0 : 0 ≤ m) (hm : m ≤ 1000000) : ∃ c, draw_New N l m = some ((), (c, ())) ∧ DOk c := by
  unfold draw_New
  by_cases hlt : m < (l.length : Int)
  · have hc : (cut l 0 m.toNat).length ≤ 1000000 := by simp [cut]; omega
    simp only [dpos hlt, cond_true, dpos (show (0 : Int) ≤ 0 by omega), dpos h0, dpos (show m ≤ (l.length : Int) by omega), Bool.and_self]
    rw [room_of (by omega)]
    exact ⟨_, rfl, by simp only; omega, hc⟩
  · have hc : (cut l 0 ((l.length : Int)).toNat).length ≤ 1000000 := by simp [cut]; omega
    simp only [dneg hlt, cond_false, dpos (show (0 : Int) ≤ 0 by omega), dpos (show (0 : Int) ≤ (l.length : Int) by omega), dpos (show (l.length : Int) ≤ (l.length : Int) by omega), Bool.and_self, cond_true]
    rw [room_of (by omega)]
    exact ⟨_, rfl, by simp only; omega, hc⟩
theorem daddr_some (N : Nat) (s x : Int) (six : Bool) : ∃ a, draw_address N s x six = some ((a, ()), ()) := by cases six <;> exact ⟨_, rfl⟩
theorem dpacket_2 (N : Nat) (t : Bool) {c : Dc} (h : DOk c) (x p : D29) : ∃ q c', draw_Codes_Packet_2 N t c x p = some ((q, ()), (c', ())) ∧ DOk c' := by cases t <;> exact ⟨_, _, rfl, h⟩
theorem dpacket_1 (N : Nat) (s : Int) (six : Bool) (to : Int) {c : Dc} (h : DOk c) (x : D29) : ∃ q c', draw_Codes_Packet_1 N s six to c x = some ((q, ()), (c', ())) ∧ DOk c' := by
  unfold draw_Codes_Packet_1
  obtain ⟨v1, c1, e1, _, _, k1⟩ := dnext_ok N (n := 256) h (by omega) (by omega)
  obtain ⟨a1, e2⟩ := daddr_some N s v1 six
  obtain ⟨v3, c3, e3, _, _, k3⟩ := dnext_ok N (n := 256) k1 (by omega) (by omega)
  obtain ⟨a4, e4⟩ := daddr_some N to v3 six
  obtain ⟨v5, c5, e5, q5, q5', k5⟩ := dnext_ok N (n := 4) k3 (by omega) (by omega)
  obtain ⟨v6, c6, e6, _, _, k6⟩ := dnext_ok N (n := 6) k5 (by omega) (by omega)
  obtain ⟨v7, c7, e7, _, _, k7⟩ := dnext_ok N (n := 6) k6 (by omega) (by omega)
  obtain ⟨v8, c8, e8, _, _, k8⟩ := dnext_ok N (n := 4) k7 (by omega) (by omega)
  simp only [e1, e2, e3, e4, e5, e6, e7, e8, Option.bind_some]
  rw [inR_of q5 (by simp only [List.length_cons, List.length_nil]; omega), cond_true]
  generalize [(6 : Int), 17, 1, 50].getD v5.toNat 0 = y
  cases decide (v8 = 3) <;> cases decide (y = 1) <;> simp only [cond_true, cond_false] <;> exact dpacket_2 N _ k8 _ _
theorem dpacket_ok (N : Nat) (s : Int) {c : Dc} (h : DOk c) : ∃ q c', draw_Codes_Packet N s c = some ((q, ()), (c', ())) ∧ DOk c' := by
  unfold draw_Codes_Packet
  obtain ⟨v1, c1, e1, _, _, k1⟩ := dnext_ok N (n := 10) h (by omega) (by omega)
  obtain ⟨v2, c2, e2, _, _, k2⟩ := dnext_ok N (n := 8) k1 (by omega) (by omega)
  simp only [e1, e2, Option.bind_some]
  cases decide (v2 = 7) <;> exact dpacket_1 N _ _ _ k2 _
theorem lvalid_some (N : Nat) (a : D27) : ∃ v, selector_Valid N a = some ((v, ()), ()) := by
  unfold selector_Valid
  cases decide (a.1 = 6) <;> cases decide (a.1 = 4) <;> cases decide (a.2.1 = 0) <;> exact ⟨_, rfl⟩
theorem lfamily_some (N : Nat) (a b : D27) : ∃ v, ipfrag_family N a b = some ((v, ()), ()) := by
  obtain ⟨v, e⟩ := lvalid_some N a
  obtain ⟨u, e'⟩ := lvalid_some N b
  unfold ipfrag_family
  rw [e, e', Option.bind_some, Option.bind_some]
  cases v <;> cases u <;> exact ⟨_, rfl⟩
theorem right_some (N : Nat) (p : D97) : ∃ b, ipfrag_right N p = some ((b, ()), ()) := by
  obtain ⟨v, e⟩ := lfamily_some N p.1 p.2.1
  unfold ipfrag_right
  simp only [e, Option.bind_some]
  cases v <;> cases decide ((0 : Int) ≤ p.2.2.1) <;> cases decide ((0 : Int) ≤ p.2.2.2.1) <;> cases decide (p.2.2.2.1 ≤ (4096 : Int)) <;> cases decide (p.2.2.2.1.tmod 8 = 0) <;> cases decide (w64 (p.2.2.2.1 + (p.2.2.2.2.2.1.length : Int)) ≤ 4096) <;> cases p.2.2.2.2.1 <;> cases decide ((0 : Int) < (p.2.2.2.2.2.1.length : Int)) <;> exact ⟨_, rfl⟩
theorem inside_some (N : Nat) (a b : D97) : ∃ v, ipfrag_inside N a b = some ((v, ()), ()) := by
  unfold ipfrag_inside ipfrag_end
  cases decide ((a.2.2.2.2.2.1.length : Int) = 0) <;> cases decide (b.2.2.2.1 < a.2.2.2.1) <;> exact ⟨_, rfl⟩
theorem overlap_some (N : Nat) (a b : D97) : ∃ v, ipfrag_overlap N a b = some ((v, ()), ()) := by
  obtain ⟨v, e⟩ := inside_some N a b
  obtain ⟨u, e'⟩ := inside_some N b a
  unfold ipfrag_overlap ipfrag_end
  simp only [Option.bind_some, e, e']
  generalize decide ((bif decide (a.2.2.2.1 < b.2.2.2.1) then b.2.2.2.1 else a.2.2.2.1) < _) = q
  cases q <;> cases v <;> exact ⟨_, rfl⟩
theorem beyond_some (N : Nat) (a b : D97) : ∃ v, ipfrag_beyond N a b = some ((v, ()), ()) := by
  unfold ipfrag_beyond ipfrag_end
  simp only [Option.bind_some]
  cases a.2.2.2.2.1 <;> cases b.2.2.2.2.1 <;> simp only [Bool.not_true, Bool.not_false, cond_true, cond_false]
  · exact ⟨_, rfl⟩
  · cases decide (w64 (a.2.2.2.1 + (a.2.2.2.2.2.1.length : Int)) < w64 (b.2.2.2.1 + (b.2.2.2.2.2.1.length : Int))) <;> exact ⟨_, rfl⟩
  · exact ⟨_, rfl⟩
  · exact ⟨_, rfl⟩
theorem half {s : Int} (h0 : 0 ≤ s) (h1 : s ≤ 40) : w64 ((shr64 (iu64 (w64 s)) 1).toNat : Int) = s / 2 := by
  have key : ((List.range 41).all fun k => decide (w64 ((shr64 (iu64 (w64 ((k : Nat) : Int))) 1).toNat : Int) = ((k : Nat) : Int) / 2)) = true := by kernel_rfl
  obtain ⟨k, rfl⟩ := Int.eq_ofNat_of_zero_le h0
  have := List.all_eq_true.1 key k (List.mem_range.2 (by omega))
  exact of_decide_eq_true this
section
variable (N : Nat) (hN : 4611686018427387904 ≤ N)
include hN
theorem ibytes_ok {n by_ : Int} (h0 : 0 ≤ n) (hn : n ≤ 1000000) : ∃ b, law25_bytes N n by_ = some ((), (b, ())) ∧ (b.length : Int) = n := by
  unfold law25_bytes
  rw [dpos h0, dpos (Int.le_refl n), room_of (by omega)]
  simp only [Bool.and_self, cond_true]
  unfold law25_bytes_1
  have := loopK_of (N := N) (step := fun y => law25_bytes_s2 N y.1.1 y.1.2.1 y.1.2.2.1 y.2.1) (J := fun (e : ((Unit) × (List UInt8 × Unit))) => law25_bytes_3 N e.2.1)
    (I := fun y => ∃ (i : Int) (b : List UInt8), y = ((n, by_, i, ()), (b, ())) ∧ 0 ≤ i ∧ i ≤ n ∧ (b.length : Int) = n) (μ := fun y => (n - y.1.2.2.1).toNat) (T := fun r => ∃ b, r = ((), (b, ())) ∧ (b.length : Int) = n) ?_ (x := ((n, by_, 0, ()), (List.replicate n.toNat 0, ()))) ⟨0, _, rfl, by omega, by omega, by rw [List.length_replicate]; omega⟩ (by simp only; omega)
  · obtain ⟨r, h1, b, rfl, h2⟩ := this
    exact ⟨b, h1, h2⟩
  · rintro _ ⟨i, b, rfl, hi, hin, hb⟩
    show ∃ r, law25_bytes_s2 N n by_ i b = some r ∧ _
    unfold law25_bytes_s2
    by_cases hlt : i < n
    · rw [dpos hlt, inR_of hi (by omega)]
      simp only [cond_true]
      have hw : w64 (i + 1) = i + 1 := w64_of (by omega) (by omega)
      rw [hw]
      exact ⟨_, rfl, ⟨_, _, rfl, by omega, by omega, by rw [List.length_set]; exact hb⟩, by simp only; omega⟩
    · rw [dneg hlt]
      exact ⟨_, rfl, _, rfl, _, rfl, hb⟩
theorem leq_some {a b : List UInt8} (ha : a.length ≤ 1000) : ∃ v, slices_Equal___byte_byte_ N a b = some ((v, ()), ()) := by
  unfold slices_Equal___byte_byte_
  by_cases hl : (a.length : Int) = (b.length : Int)
  · rw [dpos hl, Bool.not_true, cond_false]
    unfold slices_Equal___byte_byte__1
    have := loopK_of (N := N) (step := fun y => slices_Equal___byte_byte__s2 N y.1.1 y.1.2.1 y.1.2.2.1 y.1.2.2.2.1) (J := fun (e : ((Unit) × (Unit))) => slices_Equal___byte_byte__3 N)
      (I := fun y => ∃ i : Int, y = ((a, b, (a.length : Int), i, ()), ()) ∧ 0 ≤ i ∧ i ≤ a.length) (μ := fun y => ((a.length : Int) - y.1.2.2.2.1).toNat) (T := fun r => ∃ v, r = ((v, ()), ())) ?_ (x := ((a, b, (a.length : Int), 0, ()), ())) ⟨0, rfl, by omega, by omega⟩ (by simp only; omega)
    · obtain ⟨r, h1, v, rfl⟩ := this
      exact ⟨v, h1⟩
    · rintro _ ⟨i, rfl, h0, h1⟩
      show ∃ r, slices_Equal___byte_byte__s2 N a b (a.length : Int) i = some r ∧ _
      unfold slices_Equal___byte_byte__s2
      by_cases hlt : i < (a.length : Int)
      · rw [dpos hlt, inR_of h0 hlt, inR_of h0 (by omega), w64_of (by omega) (by omega)]
        simp only [cond_true]
        cases decide (a.getD i.toNat 0 = b.getD i.toNat 0)
        · exact ⟨_, rfl, _, rfl⟩
        · exact ⟨_, rfl, ⟨_, rfl, by omega, by omega⟩, by simp only; omega⟩
      · rw [dneg hlt]
        exact ⟨_, rfl, _, rfl, _, rfl⟩
  · rw [dneg hl]
    exact ⟨_, rfl⟩
theorem equal_some {a b : D97} (ha : a.2.2.2.2.2.1.length ≤ 1000) : ∃ v, ipfrag_equal N a b = some ((v, ()), ()) := by
  unfold ipfrag_equal
  obtain ⟨v, e⟩ := leq_some N hN (b := b.2.2.2.2.2.1) ha
  rw [e]
  cases decide (a.2.2.2.1 = b.2.2.2.1) <;> cases decide (a.2.2.2.2.1 = b.2.2.2.2.1) <;> exact ⟨_, rfl⟩
theorem search_ok {x : List D97} (hx : x.length ≤ 16) (t : Int) : ∃ k f, slices_BinarySearchFunc___api_Piece_api_Piece_int__ipfrag_Add_f3 N x t = some ((k, f, ()), ()) ∧ 0 ≤ k ∧ k ≤ (x.length : Int) := by
  unfold slices_BinarySearchFunc___api_Piece_api_Piece_int__ipfrag_Add_f3
  simp only
  unfold slices_BinarySearchFunc___api_Piece_api_Piece_int__ipfrag_Add_f3_1
  have := loopK_of (N := N) (step := fun y => slices_BinarySearchFunc___api_Piece_api_Piece_int__ipfrag_Add_f3_s2 N y.1.1 y.1.2.1 y.1.2.2.1 y.1.2.2.2.1 y.1.2.2.2.2.1)
    (J := fun (e : (((List D97) × Int × Int × Int × Unit) × (Unit))) => slices_BinarySearchFunc___api_Piece_api_Piece_int__ipfrag_Add_f3_3 N e.1.1 e.1.2.1 e.1.2.2.1 e.1.2.2.2.1)
    (I := fun y => ∃ i j : Int, y = ((x, t, (x.length : Int), i, j, ()), ()) ∧ 0 ≤ i ∧ i ≤ j ∧ j ≤ x.length) (μ := fun y => (y.1.2.2.2.2.1 - y.1.2.2.2.1).toNat) (T := fun r => ∃ k f, r = ((k, f, ()), ()) ∧ 0 ≤ k ∧ k ≤ (x.length : Int)) ?_
    (x := ((x, t, (x.length : Int), 0, (x.length : Int), ()), ())) ⟨0, _, rfl, by omega, by omega, by omega⟩ (by simp only; omega)
  · obtain ⟨r, h1, k, f, rfl, h2⟩ := this
    exact ⟨k, f, h1, h2⟩
  · rintro _ ⟨i, j, rfl, h0, hij, hj⟩
    show ∃ r, slices_BinarySearchFunc___api_Piece_api_Piece_int__ipfrag_Add_f3_s2 N x t (x.length : Int) i j = some r ∧ _
    unfold slices_BinarySearchFunc___api_Piece_api_Piece_int__ipfrag_Add_f3_s2
    by_cases hlt : i < j
    · rw [dpos hlt, half (by omega) (by omega)]
      have hw : w64 ((i + j) / 2 + 1) = (i + j) / 2 + 1 := w64_of (by omega) (by omega)
      simp only [cond_true, inR_of (show 0 ≤ (i + j) / 2 by omega) (show (i + j) / 2 < (x.length : Int) by omega), ipfrag_Add_f3, Option.bind_some, hw]
      generalize decide (w64 (_ - t) < 0) = q
      cases q
      · exact ⟨_, rfl, ⟨_, _, rfl, by omega, by omega, by omega⟩, by simp only; omega⟩
      · exact ⟨_, rfl, ⟨_, _, rfl, by omega, by omega, by omega⟩, by simp only; omega⟩
    · rw [dneg hlt]
      refine ⟨_, rfl, ?_⟩
      show ∃ r, slices_BinarySearchFunc___api_Piece_api_Piece_int__ipfrag_Add_f3_3 N x t (x.length : Int) i = some r ∧ _
      unfold slices_BinarySearchFunc___api_Piece_api_Piece_int__ipfrag_Add_f3_3
      by_cases hn : i < (x.length : Int)
      · rw [dpos hn, inR_of h0 hn]
        exact ⟨_, rfl, _, _, rfl, h0, by omega⟩
      · rw [dneg hn]
        exact ⟨_, rfl, _, _, rfl, h0, by omega⟩
theorem complete_some {x : List D97} (hx : x.length ≤ 100) (hd : ∀ q ∈ x, q.2.2.2.2.2.1.length ≤ 1000) : ∃ ok d, ipfrag_complete N x = some ((ok, ()), (d, ())) := by
  unfold ipfrag_complete ipfrag_complete_1
  have := loopK_of (N := N) (step := fun y => ipfrag_complete_s2 N y.1.1 y.1.2.1 y.1.2.2.1 y.2.1) (J := fun (e : ((Unit) × (Unit))) => ipfrag_complete_3 N)
    (I := fun y => ∃ (i : Int) (d : List UInt8), y = ((x, (x.length : Int), i, ()), (d, ())) ∧ 0 ≤ i ∧ i ≤ x.length ∧ (d.length : Int) ≤ 1000 * i) (μ := fun y => ((x.length : Int) - y.1.2.2.1).toNat) (T := fun r => ∃ ok d, r = ((ok, ()), (d, ()))) ?_
    (x := ((x, (x.length : Int), 0, ()), ([], ()))) ⟨0, [], rfl, by omega, by omega, by simp⟩ (by simp only; omega)
  · obtain ⟨r, h1, ok, d, rfl⟩ := this
    exact ⟨ok, d, h1⟩
  · rintro _ ⟨i, d, rfl, h0, h1, hdl⟩
    show ∃ r, ipfrag_complete_s2 N x (x.length : Int) i d = some r ∧ _
    unfold ipfrag_complete_s2
    by_cases hlt : i < (x.length : Int)
    · have hm : x.getD i.toNat ((0, 0, 0, ()), (0, 0, 0, ()), 0, 0, false, [], ()) ∈ x := by rw [List.getD, List.getElem?_eq_getElem (show i.toNat < x.length by omega)]; exact List.getElem_mem _
      have hq := hd _ hm
      rw [dpos hlt, inR_of h0 hlt, w64_of (by omega) (by omega)]
      simp only [cond_true]
      generalize x.getD i.toNat ((0, 0, 0, ()), (0, 0, 0, ()), 0, 0, false, [], ()) = q at hq
      rw [room_of (by omega)]
      cases decide (q.2.2.2.1 = (d.length : Int))
      · exact ⟨_, rfl, _, _, rfl⟩
      · simp only [Bool.not_true, cond_false, cond_true]
        cases q.2.2.2.2.1
        · exact ⟨_, rfl, _, _, rfl⟩
        · exact ⟨_, rfl, ⟨_, _, rfl, by omega, by omega, by rw [List.length_append]; omega⟩, by simp only; omega⟩
    · rw [dneg hlt]
      exact ⟨_, rfl, _, rfl, _, _, rfl⟩
end
end Go.Proofs.Ytgbkkfpheahdfaa.Pl

/- Plain: the law IpfragLimits. -/
namespace Go.Proofs.Ytgbkkfpheahdfaa.Pl
open Go
/-- A table within its limits, but for the number of pieces of assembly i. -/
def WTab (l : List D99) (i : Nat) : Prop := l.length ≤ 6 ∧ ∀ (k : Nat) (x : D99), l[k]? = some x → x.2.2.2.1.length ≤ 16 ∧ (∀ q ∈ x.2.2.2.1, q.2.2.2.2.2.1.length ≤ 16) ∧ (k ≠ i → 1 ≤ x.2.2.2.1.length)
def TabOk (l : List D99) : Prop := l.length ≤ 6 ∧ ∀ x ∈ l, x.2.2.2.1.length ≤ 16 ∧ (∀ q ∈ x.2.2.2.1, q.2.2.2.2.2.1.length ≤ 16) ∧ 1 ≤ x.2.2.2.1.length
theorem tab_weak {l : List D99} (h : TabOk l) (i : Nat) : WTab l i := ⟨h.1, fun _ x hx => ⟨(h.2 x (List.mem_of_getElem? hx)).1, (h.2 x (List.mem_of_getElem? hx)).2.1, fun _ => (h.2 x (List.mem_of_getElem? hx)).2.2⟩⟩
theorem tab_erase {l : List D99} {i : Nat} (h : WTab l i) : TabOk (l.eraseIdx i) := by
  refine ⟨Nat.le_trans (List.length_eraseIdx_le l i) h.1, fun x hx => ?_⟩
  obtain ⟨k, hk, hx⟩ := List.mem_eraseIdx_iff_getElem?.1 hx
  obtain ⟨h1, h2, h3⟩ := h.2 k x hx
  exact ⟨h1, h2, h3 hk⟩
theorem tab_new {l : List D99} (h : TabOk l) (h6 : ¬ 6 ≤ l.length) (p : D97) (now : Int) : WTab (l ++ [newA p now]) l.length := by
  refine ⟨by simp; omega, fun k x hx => ?_⟩
  rcases Nat.lt_trichotomy k l.length with q | q | q
  · rw [List.getElem?_append_left q] at hx
    obtain ⟨h1, h2, h3⟩ := h.2 x (List.mem_of_getElem? hx)
    exact ⟨h1, h2, fun _ => h3⟩
  · subst q
    rw [List.getElem?_append_right (Nat.le_refl _)] at hx
    simp at hx
    subst hx
    exact ⟨Nat.zero_le _, fun q hq => by simp [newA] at hq, fun e => absurd rfl e⟩
  · rw [List.getElem?_eq_none (by simp; omega)] at hx; cases hx
theorem ps_weak {l : List D99} {i : Nat} (h : WTab l i) : (psAt l i).length ≤ 16 ∧ ∀ q ∈ psAt l i, q.2.2.2.2.2.1.length ≤ 16 := by
  unfold psAt
  cases hx : l[i]? with
  | none => exact ⟨Nat.zero_le _, fun q hq => by simp at hq⟩
  | some x => exact ⟨(h.2 i x hx).1, (h.2 i x hx).2.1⟩
theorem tab_set {l : List D99} {i : Nat} (h : WTab l i) {ps : List D97} (h1 : 1 ≤ ps.length) (h2 : ps.length ≤ 16) (h3 : ∀ q ∈ ps, q.2.2.2.2.2.1.length ≤ 16) : TabOk (l.modify i (setPs ps)) := by
  refine ⟨by rw [List.length_modify]; exact h.1, fun x hx => ?_⟩
  obtain ⟨k, hk⟩ := List.mem_iff_getElem?.1 hx
  rw [List.getElem?_modify] at hk
  cases hl : l[k]? with
  | none => rw [hl] at hk; simp at hk
  | some y =>
    rw [hl] at hk
    have hk : (if i = k then setPs ps y else y) = x := Option.some.inj hk
    by_cases e : i = k
    · rw [if_pos e] at hk
      subst hk
      exact ⟨h2, h3, h1⟩
    · rw [if_neg e] at hk
      subst hk
      obtain ⟨a1, a2, a3⟩ := h.2 k y hl
      exact ⟨a1, a2, a3 fun e' => e e'.symm⟩
theorem any_ok {f : D97 → Option Bool} : ∀ {l : List D97}, (∀ q ∈ l, ∃ b, f q = some b) → ∃ b, anyO f l = some b
  | [], _ => ⟨false, rfl⟩
  | q :: l, h => by
    obtain ⟨b, hb⟩ := h q (by simp)
    obtain ⟨c, hc⟩ := any_ok (l := l) fun q' hq => h q' (by simp [hq])
    exact ⟨b || c, by simp only [anyO, hb, hc, Option.bind_some, Option.map_some]⟩
section
variable (N : Nat) (hN : 4611686018427387904 ≤ N)
include hN
theorem end_ok {l : List D99} {i : Nat} (h : WTab l i) {ps : List D97} (h1 : 1 ≤ ps.length) (h2 : ps.length ≤ 16) (h3 : ∀ q ∈ ps, q.2.2.2.2.2.1.length ≤ 16) : ∃ y, addEnd N l i ps = some y ∧ TabOk y.1.1 := by
  unfold addEnd
  obtain ⟨ok, d, e⟩ := complete_some N hN (x := ps) (by omega) (fun q hq => by have := h3 q hq; omega)
  rw [e, Option.bind_some]
  cases ok
  · exact ⟨_, rfl, tab_set h h1 h2 h3⟩
  · exact ⟨_, rfl, tab_erase h⟩
theorem put_ok {l : List D99} {i : Nat} (h : WTab l i) {p : D97} (hp : p.2.2.2.2.2.1.length ≤ 16) (h16 : ¬ 16 ≤ (psAt l i).length) : ∃ y, addPut N l i p = some y ∧ TabOk y.1.1 := by
  unfold addPut
  obtain ⟨h1, h2⟩ := ps_weak h
  obtain ⟨k, f, e, k0, k1⟩ := search_ok N hN h1 (w64 (p.2.2.2.1 + 1))
  rw [e, Option.bind_some]
  simp only [dpos k0, dpos k1, Bool.and_self, cond_true]
  refine end_ok N hN h ?_ ?_ ?_
  · simp; omega
  · simp; omega
  · intro q hq
    simp only [List.mem_append, List.mem_singleton] at hq
    rcases hq with (hq | rfl) | hq
    · exact h2 q (List.mem_of_mem_take hq)
    · exact hp
    · exact h2 q (List.mem_of_mem_drop hq)
theorem core_ok {l : List D99} {i : Nat} (h : WTab l i) {p : D97} (hp : p.2.2.2.2.2.1.length ≤ 16) (hl : TabOk l ∨ psAt l i = []) : ∃ y, addCore N l i p = some y ∧ TabOk y.1.1 := by
  unfold addCore
  obtain ⟨b1, e1⟩ := any_ok (f := fun q => (ipfrag_equal N p q).map (·.1.1)) (l := psAt l i) fun q hq => by
    obtain ⟨v, e⟩ := equal_some N hN (a := p) (b := q) (by omega)
    exact ⟨v, by rw [e]; rfl⟩
  obtain ⟨b2, e2⟩ := any_ok (f := fun q => (ipfrag_overlap N p q).map (·.1.1)) (l := psAt l i) fun q hq => by
    obtain ⟨v, e⟩ := overlap_some N p q
    exact ⟨v, by rw [e]; rfl⟩
  obtain ⟨b3, e3⟩ := any_ok (f := fun q => (ipfrag_beyond N p q).map (·.1.1)) (l := psAt l i) fun q hq => by
    obtain ⟨v, e⟩ := beyond_some N p q
    exact ⟨v, by rw [e]; rfl⟩
  have h1 : b1 = true → TabOk l := fun hb => by
    rcases hl with hl | hl
    · exact hl
    · rw [hl] at e1
      have : some false = some b1 := e1
      cases this
      cases hb
  rw [e1, e2, e3, Option.bind_some]
  cases b1
  · rw [cond_false, Option.bind_some]
    cases b2
    · rw [cond_false, Option.bind_some]
      cases b3
      · rw [cond_false]
        by_cases h16 : 16 ≤ (psAt l i).length
        · rw [dpos h16]; exact ⟨_, rfl, tab_erase h⟩
        · rw [dneg h16]; exact put_ok N hN h hp h16
      · exact ⟨_, rfl, tab_erase h⟩
    · exact ⟨_, rfl, tab_erase h⟩
  · exact ⟨_, rfl, h1 rfl⟩
theorem add_ok {l : List D99} (h : TabOk l) {p : D97} (hp : p.2.2.2.2.2.1.length ≤ 16) (now : Int) : ∃ y, ipfrag_Add N l p now = some y ∧ TabOk y.1.1 := by
  unfold ipfrag_Add addF
  have hs : smallA l p = true := by
    unfold smallA
    have := h.1
    rw [dpos (show l.length ≤ 1000 by omega), dpos (show p.2.2.2.2.2.1.length ≤ 100000 by omega), Bool.true_and, Bool.true_and, List.all_eq_true]
    intro x hx
    obtain ⟨h1, h2, _⟩ := h.2 x hx
    rw [dpos (show x.2.2.2.1.length ≤ 1000 by omega), Bool.true_and, List.all_eq_true]
    intro q hq
    have := h2 q hq
    exact decide_eq_true (by omega)
  obtain ⟨b, e⟩ := right_some N p
  rw [hs, cond_true, e, Option.bind_some]
  cases b
  · exact ⟨_, rfl, h⟩
  · rw [cond_true]
    cases hf : findAt l p with
    | some k => exact core_ok N hN (tab_weak h k) hp (.inl h)
    | none =>
      simp only
      by_cases h6 : 6 ≤ l.length
      · rw [dpos h6]; exact ⟨_, rfl, h⟩
      · rw [dneg h6, cond_false]
        exact core_ok N hN (tab_new h h6 p now) hp (.inr psAt_eq)
theorem held_ok {l : List D99} (h : TabOk l) : ∃ n, ipfrag_Held N l = some ((n, ()), ()) ∧ n ≤ 1536 := by
  have h6 := h.1
  unfold ipfrag_Held ipfrag_Held_1
  have := loopK_of (N := N) (step := fun y => ipfrag_Held_s2 N y.1.1 y.1.2.1 y.1.2.2.1 y.1.2.2.2.1) (J := fun (e : ((Int × Unit) × (Unit))) => ipfrag_Held_9 N e.1.1)
    (I := fun y => ∃ n i : Int, y = ((n, l, (l.length : Int), i, ()), ()) ∧ 0 ≤ i ∧ i ≤ l.length ∧ 0 ≤ n ∧ n ≤ 256 * i) (μ := fun y => ((l.length : Int) - y.1.2.2.2.1).toNat) (T := fun r => ∃ n, r = ((n, ()), ()) ∧ n ≤ 1536) ?_
    (x := ((0, l, (l.length : Int), 0, ()), ())) ⟨0, 0, rfl, by omega, by omega, by omega, by omega⟩ (by simp only; omega)
  · obtain ⟨r, h1, n, rfl, h2⟩ := this
    exact ⟨n, h1, h2⟩
  · rintro _ ⟨n, i, rfl, h0, h1, hn0, hn⟩
    show ∃ r, ipfrag_Held_s2 N n l (l.length : Int) i = some r ∧ _
    unfold ipfrag_Held_s2
    by_cases hlt : i < (l.length : Int)
    · rw [dpos hlt, cond_true]
      unfold ipfrag_Held_3 ipfrag_Held_5
      have hm : l.getD i.toNat ((0, 0, 0, ()), (0, 0, 0, ()), 0, [], 0, ()) ∈ l := by rw [List.getD, List.getElem?_eq_getElem (show i.toNat < l.length by omega)]; exact List.getElem_mem _
      obtain ⟨q1, q2, _⟩ := h.2 _ hm
      rw [inR_of h0 hlt, cond_true]
      simp only
      generalize l.getD i.toNat ((0, 0, 0, ()), (0, 0, 0, ()), 0, [], 0, ()) = x at q1 q2
      obtain ⟨x1, x2, x3, ps, x5, u⟩ := x
      simp only at q1 q2
      unfold ipfrag_Held_6
      have := loopK_of (N := N) (step := fun y => ipfrag_Held_s7 N y.1.1 y.1.2.1 y.1.2.2.1 y.1.2.2.2.1 y.1.2.2.2.2.1 y.1.2.2.2.2.2.1 y.1.2.2.2.2.2.2.1) (J := fun (e : ((Int × (List D99) × Int × Int × Unit) × (Unit))) => ipfrag_Held_8 N e.1.1 e.1.2.1 e.1.2.2.1 e.1.2.2.2.1)
        (I := fun y => ∃ m j : Int, y = ((m, l, (l.length : Int), i, ps, (ps.length : Int), j, ()), ()) ∧ 0 ≤ j ∧ j ≤ ps.length ∧ 0 ≤ m ∧ m ≤ n + 16 * j) (μ := fun y => ((ps.length : Int) - y.1.2.2.2.2.2.2.1).toNat) (T := fun r => ∃ m, r = .go ((m, l, (l.length : Int), w64 (i + 1), ()), ()) ∧ 0 ≤ m ∧ m ≤ n + 256) ?_
        (x := ((n, l, (l.length : Int), i, ps, (ps.length : Int), 0, ()), ())) ⟨n, 0, rfl, by omega, by omega, hn0, by omega⟩ (by simp only; omega)
      · obtain ⟨r, h1, m, rfl, m0, m1⟩ := this
        have hw : w64 (i + 1) = i + 1 := w64_of (by omega) (by omega)
        rw [hw] at h1
        exact ⟨_, h1, ⟨_, _, rfl, by omega, by omega, m0, by omega⟩, by simp only; omega⟩
      · rintro _ ⟨m, j, rfl, j0, j1, m0, m1⟩
        show ∃ r, ipfrag_Held_s7 N m l (l.length : Int) i ps (ps.length : Int) j = some r ∧ _
        unfold ipfrag_Held_s7
        by_cases hlt2 : j < (ps.length : Int)
        · have hm : ps.getD j.toNat ((0, 0, 0, ()), (0, 0, 0, ()), 0, 0, false, [], ()) ∈ ps := by rw [List.getD, List.getElem?_eq_getElem (show j.toNat < ps.length by omega)]; exact List.getElem_mem _
          have hq := q2 _ hm
          rw [dpos hlt2, inR_of j0 hlt2]
          simp only [cond_true]
          generalize ps.getD j.toNat ((0, 0, 0, ()), (0, 0, 0, ()), 0, 0, false, [], ()) = q at hq
          have w1 : w64 (m + (q.2.2.2.2.2.1.length : Int)) = m + (q.2.2.2.2.2.1.length : Int) := w64_of (by omega) (by omega)
          have w2 : w64 (j + 1) = j + 1 := w64_of (by omega) (by omega)
          rw [w1, w2]
          exact ⟨_, rfl, ⟨_, _, rfl, by omega, by omega, by omega, by omega⟩, by simp only; omega⟩
        · rw [dneg hlt2]
          exact ⟨_, rfl, _, rfl, m, rfl, m0, by omega⟩
    · rw [dneg hlt]
      exact ⟨_, rfl, _, rfl, n, rfl, by omega⟩
/-- A look at all assemblies. -/
theorem limits_6 {l : List D99} (h : TabOk l) (k : Int) (c : Dc) : law25_IpfragLimits_6 N l k 0 c = some (.go ((l, w64 (k + 1), ()), (c, ()))) := by
  have h6 := h.1
  unfold law25_IpfragLimits_6
  refine (loopK_run (fun i : Nat => ((l, k, (i : Int), ()), (c, ()))) (n := l.length) ?_ (e := ((l, k, ()), (c, ()))) ?_ (by omega)).trans rfl
  · intro i hi
    show law25_IpfragLimits_s7 N l k (i : Int) c = _
    unfold law25_IpfragLimits_s7
    have hm : l.getD i ((0, 0, 0, ()), (0, 0, 0, ()), 0, [], 0, ()) ∈ l := by rw [List.getD, List.getElem?_eq_getElem hi]; exact List.getElem_mem hi
    obtain ⟨q1, _, q2⟩ := h.2 _ hm
    rw [dpos (show (i : Int) < (l.length : Int) by omega), inR_of (by omega) (by omega), w64_of (by omega) (by omega), Int.toNat_natCast]
    generalize l.getD i ((0, 0, 0, ()), (0, 0, 0, ()), 0, [], 0, ()) = x at q1 q2
    simp only [cond_true]
    rw [dneg (show ¬ (16 : Int) < (x.2.2.2.1.length : Int) by omega), dneg (show ¬ (x.2.2.2.1.length : Int) = 0 by omega)]
    rfl
  · show law25_IpfragLimits_s7 N l k (l.length : Int) c = _
    unfold law25_IpfragLimits_s7
    rw [dneg (by omega)]; rfl
theorem limits_5 {l : List D99} (h : TabOk l) (k : Int) {c : Dc} (hc : DOk c) : ∃ l' c', law25_IpfragLimits_5 N l k c = some (.go ((l', w64 (k + 1), ()), (c', ()))) ∧ TabOk l' ∧ DOk c' := by
  unfold law25_IpfragLimits_5
  obtain ⟨p, c1, e1, k1⟩ := dpacket_ok N 0 hc
  obtain ⟨v2, c2, e2, _, _, k2⟩ := dnext_ok N (n := 10) k1 (by omega) (by omega)
  obtain ⟨v3, c3, e3, _, _, k3⟩ := dnext_ok N (n := 40) k2 (by omega) (by omega)
  obtain ⟨v4, c4, e4, _, _, k4⟩ := dnext_ok N (n := 9) k3 (by omega) (by omega)
  obtain ⟨v5, c5, e5, q5, q5', k5⟩ := dnext_ok N (n := 2) k4 (by omega) (by omega)
  have w1 : w64 ((1 : Int) + v5) = 1 + v5 := w64_of (by omega) (by omega)
  have w2 : w64 ((8 : Int) * (1 + v5)) = 8 * (1 + v5) := w64_of (by omega) (by omega)
  obtain ⟨d, e6, hd⟩ := ibytes_ok N hN (n := 8 * (1 + v5)) (by_ := k) (by omega) (by omega)
  have e1' : draw_Codes_Packet N (0 : Int) c = _ := e1
  simp only [e1', e2, e3, e4, e5, Option.bind_some, w1, w2, e6]
  obtain ⟨y, e7, hy⟩ := add_ok N hN h (p := (p.1, p.1, v2, w64 (8 * v3), decide (0 < v4), d, ())) (by show d.length ≤ 16; omega) k
  rw [e7, Option.bind_some]
  have hy6 := hy.1
  rw [dneg (show ¬ (6 : Int) < (y.1.1.length : Int) by omega), cond_false, limits_6 N hN hy]
  exact ⟨_, _, rfl, hy, k5⟩
theorem limits_1 {c : Dc} (hc : DOk c) : law25_IpfragLimits_1 N 0 c [] = some ((true, ()), ()) := by
  unfold law25_IpfragLimits_1
  have := loopK_of (N := N) (step := fun y => law25_IpfragLimits_s2 N y.1.1 y.1.2.1 y.2.1) (J := fun (e : (((List D99) × Unit) × (Unit))) => law25_IpfragLimits_9 N e.1.1)
    (I := fun y => ∃ (l : List D99) (k : Int) (c : Dc), y = ((l, k, ()), (c, ())) ∧ TabOk l ∧ DOk c ∧ 0 ≤ k ∧ k ≤ 60) (μ := fun y => (60 - y.1.2.1).toNat) (T := fun r => r = ((true, ()), ())) ?_
    (x := (([], 0, ()), (c, ()))) ⟨[], 0, c, rfl, ⟨by simp, fun x hx => by simp at hx⟩, hc, by omega, by omega⟩ (by simp only; omega)
  · obtain ⟨r, h1, rfl⟩ := this
    exact h1
  · rintro _ ⟨l, k, c, rfl, hl, hc, h0, h1⟩
    show ∃ r, law25_IpfragLimits_s2 N l k c = some r ∧ _
    unfold law25_IpfragLimits_s2
    by_cases hlt : k < 60
    · rw [dpos hlt, cond_true]
      unfold law25_IpfragLimits_3
      obtain ⟨l', c', e, hl', hc'⟩ := limits_5 N hN hl k hc
      rw [w64_of (by omega) (by omega)] at e
      exact ⟨_, e, ⟨_, _, _, rfl, hl', hc', by omega, by omega⟩, by simp only; omega⟩
    · rw [dneg hlt]
      refine ⟨_, rfl, ?_⟩
      show ∃ r, law25_IpfragLimits_9 N l = some r ∧ _
      unfold law25_IpfragLimits_9
      obtain ⟨n, e, hn⟩ := held_ok N hN hl
      rw [e, Option.bind_some]
      have : decide (n ≤ 24576) = true := decide_eq_true (by omega)
      refine ⟨_, rfl, ?_⟩
      show ((decide (n ≤ 24576), ()), ()) = _
      rw [this]
end
theorem limits (codes : List UInt8) (hc : codes.length ≤ 9223372036854775807) : law25_IpfragLimits 18446744073709551616 codes = some ((true, ()), ()) := by
  unfold law25_IpfragLimits
  rw [lawake]
  generalize hN0 : 18446744073709551616 = N
  have hN : 4611686018427387904 ≤ N := by omega
  clear hN0
  simp only [Option.bind_some, Bool.not_true, cond_false]
  obtain ⟨c0, e0, k0⟩ := dnew_ok N codes (m := 200) (by omega) (by omega)
  have e0' : draw_New N codes (200 : Int) = _ := e0
  rw [e0', Option.bind_some]
  exact limits_1 N hN k0
end Go.Proofs.Ytgbkkfpheahdfaa.Pl
