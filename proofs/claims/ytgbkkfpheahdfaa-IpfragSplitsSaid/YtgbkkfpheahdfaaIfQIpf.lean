/- Plain: the law IpfragSplits. -/
import Derived.Test.YtgbkkfpheahdfaaIfQBase
import Derived.Test.YtgbkkfpheahdfaaFnsIpfragSplitsA
set_option linter.unusedVariables false
set_option linter.unusedSimpArgs false
namespace Go.Proofs.Ytgbkkfpheahdfaa.Pl
open Go
abbrev Dc := List UInt8 × (Int × Unit)
abbrev Pk := (Int × (UInt64 × (UInt64 × Unit))) × ((Int × (UInt64 × (UInt64 × Unit))) × (Int × (Int × (Int × Unit))))
abbrev Av := Int × (UInt64 × (UInt64 × Unit))
abbrev Pc := Av × (Av × (Int × (Int × (Bool × ((List UInt8) × Unit)))))
theorem iawake : law25_awake 18446744073709551616 = some ((true, ()), ()) := by kernel_rfl
def DOk (c : Dc) : Prop := 0 ≤ c.2.1 ∧ c.1.length ≤ 1000000
theorem dnext_ok (N : Nat) {c : Dc} {n : Int} (h : DOk c) (hn : 0 < n) (hn' : n ≤ 1000) : ∃ v c', draw_Codes_Next N n c = some ((v, ()), (c', ())) ∧ 0 ≤ v ∧ v < n ∧ DOk c' := by
  obtain ⟨l, i, u⟩ := c
  obtain ⟨h1, h2⟩ := h
  simp only at h1 h2
  unfold draw_Codes_Next
  by_cases hlt : (l.length : Int) ≤ i
  · simp only [dpos hlt, cond_true]
    exact ⟨0, _, rfl, by omega, hn, h1, h2⟩
  · have e1 : w64 (i + 1) = i + 1 := w64_of (by omega) (by omega)
    have e2 : w64 (i + 1 - 1) = i := by rw [w64_of (by omega) (by omega)]; omega
    have e3 : inR i l.length = true := inR_of h1 (by omega)
    simp only [dneg hlt, cond_false, e1, e2, e3, cond_true]
    have hb := (l.getD i.toNat 0).toNat_lt
    generalize ((l.getD i.toNat 0).toNat : Nat) = b at hb
    have hm : 0 ≤ (b : Int) * n := Int.mul_nonneg (by omega) (by omega)
    have hm2 : (b : Int) * n ≤ 255 * n := Int.mul_le_mul_of_nonneg_right (by omega) (by omega)
    have e4 : w64 ((b : Int) * n) = (b : Int) * n := w64_of (by omega) (by omega)
    have e5 : ((b : Int) * n).tdiv 256 = ((b : Int) * n) / 256 := Int.tdiv_eq_ediv_of_nonneg hm
    rw [e4, e5, w64_of (by omega) (by omega)]
    refine ⟨_, _, rfl, by omega, by omega, ?_, h2⟩
    simp only; omega
theorem dnew_ok (N : Nat) (l : List UInt8) {m : Int} (h0 : 0 ≤ m) (hm : m ≤ 1000000) : ∃ c, draw_New N l m = some ((), (c, ())) ∧ DOk c := by
  unfold draw_New
  by_cases hlt : m < (l.length : Int)
  · have hc : (cut l 0 m.toNat).length ≤ 1000000 := by simp [cut]; omega
    simp only [dpos hlt, cond_true, dpos (show (0 : Int) ≤ 0 by omega), dpos h0, dpos (show m ≤ (l.length : Int) by omega), Bool.and_self]
    rw [room_of (by omega)]
    exact ⟨_, rfl, by simp only; omega, hc⟩
  · have hc : (cut l 0 ((l.length : Int)).toNat).length ≤ 1000000 := by simp [cut]; omega
    simp only [dneg hlt, cond_false, dpos (show (0 : Int) ≤ 0 by omega), dpos (show (0 : Int) ≤ (l.length : Int) by omega), dpos (show (l.length : Int) ≤ (l.length : Int) by omega), Bool.and_self, cond_true]
    rw [room_of (by omega)]
    exact ⟨_, rfl, by simp only; omega, hc⟩
theorem daddr_some (N : Nat) (s x : Int) (six : Bool) : ∃ a, draw_address N s x six = some ((a, ()), ()) := by cases six <;> exact ⟨_, rfl⟩
theorem dpacket_2 (N : Nat) (t : Bool) {c : Dc} (h : DOk c) (x p : Pk) : ∃ q c', draw_Codes_Packet_2 N t c x p = some ((q, ()), (c', ())) ∧ DOk c' := by cases t <;> exact ⟨_, _, rfl, h⟩
theorem dpacket_1 (N : Nat) (s : Int) (six : Bool) (to : Int) {c : Dc} (h : DOk c) (x : Pk) : ∃ q c', draw_Codes_Packet_1 N s six to c x = some ((q, ()), (c', ())) ∧ DOk c' := by
  unfold draw_Codes_Packet_1
  obtain ⟨v1, c1, e1, _, _, k1⟩ := dnext_ok N (n := 256) h (by omega) (by omega)
  obtain ⟨a1, e2⟩ := daddr_some N s v1 six
  obtain ⟨v3, c3, e3, _, _, k3⟩ := dnext_ok N (n := 256) k1 (by omega) (by omega)
  obtain ⟨a4, e4⟩ := daddr_some N to v3 six
  obtain ⟨v5, c5, e5, q5, q5', k5⟩ := dnext_ok N (n := 4) k3 (by omega) (by omega)
  obtain ⟨v6, c6, e6, _, _, k6⟩ := dnext_ok N (n := 6) k5 (by omega) (by omega)
  obtain ⟨v7, c7, e7, _, _, k7⟩ := dnext_ok N (n := 6) k6 (by omega) (by omega)
  obtain ⟨v8, c8, e8, _, _, k8⟩ := dnext_ok N (n := 4) k7 (by omega) (by omega)
  simp only [e1, e2, e3, e4, e5, e6, e7, e8, Option.bind_some]
  rw [inR_of q5 (by simp only [List.length_cons, List.length_nil]; omega), cond_true]
  generalize [(6 : Int), 17, 1, 50].getD v5.toNat 0 = y
  cases decide (v8 = 3) <;> cases decide (y = 1) <;> simp only [cond_true, cond_false] <;> exact dpacket_2 N _ k8 _ _
theorem dpacket_ok (N : Nat) (s : Int) {c : Dc} (h : DOk c) : ∃ q c', draw_Codes_Packet N s c = some ((q, ()), (c', ())) ∧ DOk c' := by
  unfold draw_Codes_Packet
  obtain ⟨v1, c1, e1, _, _, k1⟩ := dnext_ok N (n := 10) h (by omega) (by omega)
  obtain ⟨v2, c2, e2, _, _, k2⟩ := dnext_ok N (n := 8) k1 (by omega) (by omega)
  simp only [e1, e2, Option.bind_some]
  cases decide (v2 = 7) <;> exact dpacket_1 N _ _ _ k2 _
theorem dmod_ok (N : Nat) (x : Int) {n : Int} (h : 0 < n) (h' : n ≤ 1000000) : ∃ v, draw_Mod N x n = some ((v, ()), ()) ∧ 0 ≤ v ∧ v < n := by
  have b1 : x.tmod n < n := Int.tmod_lt_of_pos _ h
  have b2 : -n < x.tmod n := by
    by_cases hx : 0 ≤ x
    · have := Int.tmod_nonneg n hx; omega
    · have := Int.tmod_lt_of_pos (-x) h
      rw [Int.neg_tmod] at this; omega
  unfold draw_Mod
  generalize x.tmod n = y at b1 b2
  rw [dneg (show ¬ n = 0 by omega), Bool.not_false, cond_true]
  by_cases hm : y < 0
  · rw [dpos hm, cond_true, w64_of (by omega) (by omega)]
    exact ⟨_, rfl, by omega, by omega⟩
  · rw [dneg hm, cond_false]
    exact ⟨_, rfl, by omega, by omega⟩
theorem valid_eq (N : Nat) (a : Av) : selector_Valid N a = ref05_Valid N a := by
  unfold selector_Valid ref05_Valid
  by_cases h6 : a.1 = 6
  · have h4 : ¬ a.1 = 4 := by omega
    rw [dpos h6, dneg h4]; rfl
  · rw [dneg h6, cond_false]
    by_cases h4 : a.1 = 4
    · rw [dpos h4]
      simp only [cond_true]
      cases decide (a.2.1 = 0) <;> cases decide (a.2.2.1 < 4294967296) <;> rfl
    · rw [dneg h4]; rfl
theorem valid_some (N : Nat) (a : Av) : ∃ v, ref05_Valid N a = some ((v, ()), ()) := by
  unfold ref05_Valid
  cases decide (a.1 = 4) <;> cases decide (a.2.1 = 0) <;> cases decide (a.2.2.1 < 4294967296) <;> exact ⟨_, rfl⟩
theorem family_eq (N : Nat) (a b : Av) : ipfrag_family N a b = ref25_family N a b := by
  unfold ipfrag_family ref25_family
  rw [valid_eq, valid_eq]
theorem family_some (N : Nat) (a b : Av) : ∃ v, ref25_family N a b = some ((v, ()), ()) := by
  obtain ⟨v, e⟩ := valid_some N a
  obtain ⟨u, e'⟩ := valid_some N b
  unfold ref25_family
  rw [e, e', Option.bind_some, Option.bind_some]
  cases v <;> cases u <;> exact ⟨_, rfl⟩
theorem split_4 (N : Nat) (id : Int) (d : List UInt8) (size at_ : Int) (t : Bool) (f o : Av) (l : List Pc) : ipfrag_Split_4 N id d size at_ t f o l = ref25_Split_4 N id d size at_ t f o l := by
  unfold ipfrag_Split_4 ref25_Split_4
  cases t
  · rfl
  simp only [cond_true]
  generalize (bif decide ((d.length : Int) < w64 (at_ + size)) then (d.length : Int) else w64 (at_ + size)) = e
  cases (decide (0 ≤ at_) && decide (at_ ≤ e) && decide (e ≤ (d.length : Int)) && true)
  · rfl
  simp only [cond_true]
  unfold slices_Clone___byte_byte_
  show Option.bind (bif room (0 + (cut d at_.toNat e.toNat).length) 1 then some ((), (cut d at_.toNat e.toNat, ())) else none) _ = _
  cases room (0 + (cut d at_.toNat e.toNat).length) 1 <;> rfl
theorem split_2 (N : Nat) (id : Int) (d : List UInt8) (size at_ : Int) (f o : Av) (l : List Pc) : ipfrag_Split_2 N id d size at_ f o l = ref25_Split_2 N id d size at_ f o l := by
  unfold ipfrag_Split_2 ref25_Split_2
  have hs : (fun (y : (Int × List UInt8 × Int × Int × Unit) × (Av × Av × List Pc × Unit)) => ipfrag_Split_s3 N y.1.1 y.1.2.1 y.1.2.2.1 y.1.2.2.2.1 y.2.1 y.2.2.1 y.2.2.2.1) = (fun y => ref25_Split_s3 N y.1.1 y.1.2.1 y.1.2.2.1 y.1.2.2.2.1 y.2.1 y.2.2.1 y.2.2.2.1) := by
    funext y
    unfold ipfrag_Split_s3 ref25_Split_s3
    rw [split_4, split_4]
  exact congrArg (fun s => loopK N s (fun (e : ((Unit) × ((List Pc) × Unit))) => ref25_Split_5 N e.2.1) ((id, d, size, at_, ()), (f, o, l, ()))) hs
theorem split_eq (N : Nat) (f o : Av) (id : Int) (d : List UInt8) (size : Int) : ipfrag_Split N f o id d size = ref25_Split N f o id d size := by
  unfold ipfrag_Split ref25_Split
  rw [family_eq]
  obtain ⟨v, e⟩ := family_some N f o
  rw [e, Option.bind_some, Option.bind_some]
  cases v
  · rfl
  unfold ref25_Split_1 ipfrag_Split_1
  rw [split_2]
  cases decide (size < 8)
  · cases decide ((2048 : Int) < size)
    · cases decide (size.tmod 8 = 0)
      · rfl
      · cases decide (id < 0)
        · cases decide ((4096 : Int) < (d.length : Int)) <;> cases decide (w64 (16 * size) < (d.length : Int)) <;> rfl
        · rfl
    · rfl
  · rfl
theorem idqV (x : Av) : dq (.pair .i64 (.pair .u64 (.pair .u64 .unit))) x x = true := by
  obtain ⟨a, b, c, d⟩ := x
  show (decide (a = a) && (decide (b = b) && (decide (c = c) && true))) = true
  simp
def PcOk (l : List Pc) : Prop := ∀ p ∈ l, p.2.2.2.2.2.1.length ≤ 1000000
section
variable (N : Nat) (hN : 4611686018427387904 ≤ N)
include hN
theorem rsplit_2 (f o : Av) (id : Int) {d : List UInt8} (hd : d.length ≤ 4096) {size : Int} (h8 : 8 ≤ size) (h9 : size ≤ 2048) : ∃ e l, ref25_Split_2 N id d size 0 f o [] = some ((e, ()), (l, ())) ∧ l.length ≤ 10000 ∧ PcOk l := by
  unfold ref25_Split_2
  have := loopK_of (N := N) (step := fun y => ref25_Split_s3 N y.1.1 y.1.2.1 y.1.2.2.1 y.1.2.2.2.1 y.2.1 y.2.2.1 y.2.2.2.1) (J := fun (e : ((Unit) × ((List Pc) × Unit))) => ref25_Split_5 N e.2.1)
    (I := fun y => ∃ (i : Int) (l : List Pc), y = ((id, d, size, i, ()), (f, o, l, ())) ∧ 0 ≤ i ∧ i ≤ 6200 ∧ (l.length : Int) ≤ i ∧ PcOk l) (μ := fun y => ((d.length : Int) + 1 - y.1.2.2.2.1).toNat) (T := fun r => ∃ e l, r = ((e, ()), (l, ())) ∧ l.length ≤ 10000 ∧ PcOk l) ?_ (x := ((id, d, size, 0, ()), (f, o, [], ()))) ⟨0, [], rfl, by omega, by omega, by simp, fun p hp => by simp at hp⟩ (by simp only; omega)
  · obtain ⟨r, h1, e, l, rfl, h2⟩ := this
    exact ⟨e, l, h1, h2⟩
  · rintro _ ⟨i, l, rfl, h0, h6, hl, hp⟩
    show ∃ r, ref25_Split_s3 N id d size i f o l = some r ∧ _
    have hs : ref25_Split_s3 N id d size i f o l = ref25_Split_4 N id d size i (decide (i = 0) || decide (i < (d.length : Int))) f o l := by
      unfold ref25_Split_s3
      cases decide (i = 0) <;> rfl
    rw [hs]
    by_cases hi : i = 0 ∨ i < (d.length : Int)
    · have ht : (decide (i = 0) || decide (i < (d.length : Int))) = true := by
        rcases hi with hi | hi
        · rw [dpos hi, Bool.true_or]
        · rw [dpos hi, Bool.or_true]
      rw [ht]
      unfold ref25_Split_4
      have hw : w64 (i + size) = i + size := w64_of (by omega) (by omega)
      simp only [cond_true, hw]
      obtain ⟨e, he, e1, e2⟩ : ∃ e, (bif decide ((d.length : Int) < i + size) then (d.length : Int) else i + size) = e ∧ i ≤ e ∧ e ≤ (d.length : Int) := by
        by_cases hlt : (d.length : Int) < i + size
        · rw [dpos hlt]; exact ⟨_, rfl, by simp only [cond_true]; omega, by simp only [cond_true]; omega⟩
        · rw [dneg hlt]; exact ⟨_, rfl, by simp only [cond_false]; omega, by simp only [cond_false]; omega⟩
      simp only [he, dpos h0, dpos e1, dpos e2, Bool.and_self, cond_true]
      have hc : (cut d i.toNat e.toNat).length ≤ 4096 := by simp [cut]; omega
      rw [room_of (by omega), cond_true, room_of (by simp only [List.length_cons, List.length_nil]; omega), cond_true]
      refine ⟨_, rfl, ⟨_, _, rfl, by omega, by omega, ?_, ?_⟩, by simp only; omega⟩
      · rw [List.length_append]; simp only [List.length_cons, List.length_nil]; omega
      · intro p hp'
        rcases List.mem_append.1 hp' with hp' | hp'
        · exact hp p hp'
        · obtain rfl := List.mem_singleton.1 hp'
          show (cut d i.toNat e.toNat).length ≤ 1000000
          omega
    · have ht : (decide (i = 0) || decide (i < (d.length : Int))) = false := by
        rw [dneg (show ¬ i = 0 by omega), dneg (show ¬ i < (d.length : Int) by omega)]; rfl
      rw [ht]
      exact ⟨_, rfl, _, rfl, _, _, rfl, show l.length ≤ 10000 by omega, hp⟩
theorem rsplit_some (f o : Av) (id : Int) (d : List UInt8) (size : Int) : ∃ e l, ref25_Split N f o id d size = some ((e, ()), (l, ())) ∧ l.length ≤ 10000 ∧ PcOk l := by
  have hno : PcOk [] := fun p hp => by simp at hp
  unfold ref25_Split
  obtain ⟨v, e⟩ := family_some N f o
  rw [e, Option.bind_some]
  cases v
  · exact ⟨_, _, rfl, by simp, hno⟩
  have h1 : ∃ e l, ref25_Split_1 N id d size true f o = some ((e, ()), (l, ())) ∧ l.length ≤ 10000 ∧ PcOk l := ⟨_, _, rfl, by simp, hno⟩
  simp only [Bool.not_true, cond_false]
  by_cases q1 : size < 8
  · rw [dpos q1]; exact h1
  by_cases q2 : 2048 < size
  · rw [dneg q1, dpos q2]; exact h1
  rw [dneg q1, dneg q2, cond_false, cond_false]
  cases decide (size.tmod 8 = 0)
  · exact h1
  cases decide (id < 0)
  · simp only [Bool.not_true, cond_false]
    unfold ref25_Split_1
    rw [cond_false]
    by_cases q3 : (4096 : Int) < (d.length : Int)
    · rw [dpos q3]; exact ⟨_, _, rfl, by simp, hno⟩
    · rw [dneg q3, cond_false]
      cases decide (w64 (16 * size) < (d.length : Int))
      · exact rsplit_2 N hN f o id (by omega) (by omega) (by omega)
      · exact ⟨_, _, rfl, by simp, hno⟩
  · exact h1
theorem samebytes (d : List UInt8) (hd : d.length ≤ 1000000) : ref24_SameBytes N d d = some ((true, ()), ()) := by
  unfold ref24_SameBytes
  simp only [decide_true, Bool.not_true, cond_false]
  unfold ref24_SameBytes_1
  refine (loopK_run (fun i : Nat => ((d, d, (i : Int), ()), ())) (n := d.length) ?_ (e := ((), ())) ?_ (by omega)).trans rfl
  · intro i hi
    show ref24_SameBytes_s2 N d d (i : Int) = _
    unfold ref24_SameBytes_s2
    rw [dpos (show (i : Int) < (d.length : Int) by omega), inR_of (by omega) (by omega), w64_of (by omega) (by omega)]
    simp only [cond_true, decide_true, Bool.not_true, cond_false]
    rfl
  · show ref24_SameBytes_s2 N d d (d.length : Int) = _
    unfold ref24_SameBytes_s2
    rw [dneg (by omega)]; rfl
theorem same_p (p : Pc) (hp : p.2.2.2.2.2.1.length ≤ 1000000) : ref25_same N p p = some ((true, ()), ()) := by
  unfold ref25_same
  simp only [idqV, decide_true, cond_true, samebytes N hN _ hp, Option.bind_some]
theorem samepieces {l : List Pc} (hl : l.length ≤ 1000000) (hp : PcOk l) : ref25_SamePieces N l l = some ((true, ()), ()) := by
  unfold ref25_SamePieces
  simp only [decide_true, Bool.not_true, cond_false]
  unfold ref25_SamePieces_1
  refine (loopK_run (fun i : Nat => ((l, l, (i : Int), ()), ())) (n := l.length) ?_ (e := ((), ())) ?_ (by omega)).trans rfl
  · intro i hi
    show ref25_SamePieces_s2 N l l (i : Int) = _
    unfold ref25_SamePieces_s2
    have hg : l.getD i ((0, 0, 0, ()), (0, 0, 0, ()), 0, 0, false, [], ()) ∈ l := by rw [List.getD, List.getElem?_eq_getElem hi]; exact List.getElem_mem hi
    have hs := same_p N hN _ (hp _ hg)
    rw [dpos (show (i : Int) < (l.length : Int) by omega), inR_of (by omega) (by omega), w64_of (by omega) (by omega)]
    simp only [cond_true, Int.toNat_natCast]
    rw [hs]
    rfl
  · show ref25_SamePieces_s2 N l l (l.length : Int) = _
    unfold ref25_SamePieces_s2
    rw [dneg (by omega)]; rfl
theorem ibytes_ok {n by_ : Int} (h0 : 0 ≤ n) (hn : n ≤ 1000000) : ∃ b, law25_bytes N n by_ = some ((), (b, ())) := by
  unfold law25_bytes
  rw [dpos h0, dpos (Int.le_refl n), room_of (by omega)]
  simp only [Bool.and_self, cond_true]
  unfold law25_bytes_1
  have := loopK_of (N := N) (step := fun y => law25_bytes_s2 N y.1.1 y.1.2.1 y.1.2.2.1 y.2.1) (J := fun (e : ((Unit) × (List UInt8 × Unit))) => law25_bytes_3 N e.2.1)
    (I := fun y => ∃ (i : Int) (b : List UInt8), y = ((n, by_, i, ()), (b, ())) ∧ 0 ≤ i ∧ i ≤ n ∧ (b.length : Int) = n) (μ := fun y => (n - y.1.2.2.1).toNat) (T := fun r => ∃ b, r = ((), (b, ()))) ?_ (x := ((n, by_, 0, ()), (List.replicate n.toNat 0, ()))) ⟨0, _, rfl, by omega, by omega, by rw [List.length_replicate]; omega⟩ (by simp only; omega)
  · obtain ⟨r, h1, b, rfl⟩ := this
    exact ⟨b, h1⟩
  · rintro _ ⟨i, b, rfl, hi, hin, hb⟩
    show ∃ r, law25_bytes_s2 N n by_ i b = some r ∧ _
    unfold law25_bytes_s2
    by_cases hlt : i < n
    · rw [dpos hlt, inR_of hi (by omega)]
      simp only [cond_true]
      have hw : w64 (i + 1) = i + 1 := w64_of (by omega) (by omega)
      rw [hw]
      exact ⟨_, rfl, ⟨_, _, rfl, by omega, by omega, by rw [List.length_set]; exact hb⟩, by simp only; omega⟩
    · rw [dneg hlt]
      exact ⟨_, rfl, _, rfl, _, rfl⟩
theorem splits_3 (id : Int) (p : Pk) (d : List UInt8) (a b c : Int) : law25_IpfragSplits_3 N id 3 0 p d [a, b, c] = some ((true, ()), ()) := by
  unfold law25_IpfragSplits_3
  refine (loopK_run (fun i : Nat => ((id, d, 3, (i : Int), ()), (p, [a, b, c], ()))) (n := 3) ?_ (e := ((), ())) ?_ (by omega)).trans rfl
  · intro i hi
    show law25_IpfragSplits_s4 N id d 3 (i : Int) p [a, b, c] = _
    unfold law25_IpfragSplits_s4
    rw [dpos (show (i : Int) < 3 by omega), inR_of (by omega) (by simp only [List.length_cons, List.length_nil]; omega), w64_of (by omega) (by omega)]
    simp only [cond_true]
    generalize [a, b, c].getD (i : Int).toNat 0 = s
    obtain ⟨m, e1, _, _⟩ := dmod_ok N id (n := 9) (by omega) (by omega)
    obtain ⟨x, l, e2, hl, hp⟩ := rsplit_some N hN p.1 p.2.1 id d s
    obtain ⟨y, l', e3, hl', hp'⟩ := rsplit_some N hN p.1 p.2.1 m d s
    rw [split_eq, e2, e1]
    simp only [Option.bind_some]
    rw [split_eq, e3]
    simp only [Option.bind_some, decide_true, Bool.not_true, cond_false]
    rw [samepieces N hN (by omega) hp, samepieces N hN (by omega) hp']
    rfl
  · show law25_IpfragSplits_s4 N id d 3 3 p [a, b, c] = _
    unfold law25_IpfragSplits_s4
    rw [dneg (by omega)]; rfl
theorem splits_2 (id size : Int) (p : Pk) (d : List UInt8) : law25_IpfragSplits_2 N size id p d = some ((true, ()), ()) := by
  unfold law25_IpfragSplits_2
  obtain ⟨m, e1, _, _⟩ := dmod_ok N size (n := 10) (by omega) (by omega)
  obtain ⟨m2, e2, _, _⟩ := dmod_ok N size (n := 260) (by omega) (by omega)
  rw [e1, e2]
  simp only [Option.bind_some]
  exact splits_3 N hN id p d _ _ _
theorem splits_1 (id size : Int) {c : Dc} (hc : DOk c) (p : Pk) (d : List UInt8) : law25_IpfragSplits_1 N size id c p d = some ((true, ()), ()) := by
  unfold law25_IpfragSplits_1
  obtain ⟨v1, c1, e1, _, _, k1⟩ := dnext_ok N (n := 10) hc (by omega) (by omega)
  rw [e1, Option.bind_some]
  cases decide ((v1, ()).1 = 9)
  · exact splits_2 N hN id size p d
  · obtain ⟨q, c2, e2, k2⟩ := dpacket_ok N 1 k1
    obtain ⟨v3, c3, e3, _, _, k3⟩ := dnext_ok N (n := 8) k2 (by omega) (by omega)
    simp only [cond_true, e2, e3, Option.bind_some]
    exact splits_2 N hN id size _ d
end
theorem splits (codes : List UInt8) (hc : codes.length ≤ 9223372036854775807) (n : Int) (n1 : -9223372036854775808 ≤ n) (n2 : n ≤ 9223372036854775807) (size : Int) (s1 : -9223372036854775808 ≤ size) (s2 : size ≤ 9223372036854775807) (id : Int) (i1 : -9223372036854775808 ≤ id) (i2 : id ≤ 9223372036854775807) : law25_IpfragSplits 18446744073709551616 codes n size id = some ((true, ()), ()) := by
  unfold law25_IpfragSplits
  rw [iawake]
  generalize hN0 : 18446744073709551616 = N
  have hN : 4611686018427387904 ≤ N := by omega
  clear hN0
  simp only [Option.bind_some, Bool.not_true, cond_false]
  obtain ⟨c0, e0, k0⟩ := dnew_ok N codes (m := 30) (by omega) (by omega)
  obtain ⟨p, c1, e1, k1⟩ := dpacket_ok N 0 k0
  obtain ⟨m, e2, q1, q2⟩ := dmod_ok N n (n := 400) (by omega) (by omega)
  obtain ⟨b, e3⟩ := ibytes_ok N hN (n := m) (by_ := 5) q1 (by omega)
  obtain ⟨v, c2, e4, _, _, k2⟩ := dnext_ok N (n := 20) k1 (by omega) (by omega)
  have e0' : draw_New N codes (30 : Int) = _ := e0
  have e1' : draw_Codes_Packet N (0 : Int) c0 = _ := e1
  rw [e0', Option.bind_some, e1', Option.bind_some, e2, Option.bind_some, e3, Option.bind_some, e4, Option.bind_some]
  cases decide ((v, ()).1 = 19)
  · exact splits_1 N hN id size k2 p b
  · obtain ⟨v5, c5, e5, q5, q5', k5⟩ := dnext_ok N (n := 3) k2 (by omega) (by omega)
    have hw : w64 (4095 + v5) = 4095 + v5 := w64_of (by omega) (by omega)
    obtain ⟨b2, e6⟩ := ibytes_ok N hN (n := 4095 + v5) (by_ := 1) (by omega) (by omega)
    simp only [cond_true, e5, Option.bind_some, hw, e6]
    exact splits_1 N hN id size k5 p b2
end Go.Proofs.Ytgbkkfpheahdfaa.Pl
