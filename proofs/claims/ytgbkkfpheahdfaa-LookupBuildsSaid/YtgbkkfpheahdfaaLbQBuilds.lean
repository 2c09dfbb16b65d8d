/- Plain: the law LookupBuilds. -/
import Derived.Test.YtgbkkfpheahdfaaLbQBuild
import Derived.Test.YtgbkkfpheahdfaaLbQMakePkt
import Derived.Test.YtgbkkfpheahdfaaLbQEqual
import Derived.Test.YtgbkkfpheahdfaaFnsLookupBuildsB
set_option linter.unusedVariables false
set_option linter.unusedSimpArgs false
namespace Go.Proofs.Ytgbkkfpheahdfaa.Pl
open Go
theorem awake22 : law22_awake 18446744073709551616 = some ((true, ()), ()) := by kernel_rfl
theorem builds_1 (N : Nat) (hN : 4611686018427387904 ≤ N) {d : List UInt8} (hd : d.length ≤ 140737488351232) (p q r : Pkt) {c : List UInt8 × (Int × Unit)} (hc : COk c) : law22_LookupBuilds_1 N d p c q r = some ((true, ()), ()) := by
  unfold law22_LookupBuilds_1
  show law22_LookupBuilds_2 N d 3 0 c [p, q, r] = _
  have h3 : ([p, q, r] : List Pkt).length = 3 := rfl
  generalize ([p, q, r] : List Pkt) = L at *
  unfold law22_LookupBuilds_2
  have := loopK_of (N := N) (step := fun y => law22_LookupBuilds_s3 N y.1.1 y.1.2.1 y.1.2.2.1 y.2.1 y.2.2.1) (J := fun (e : ((Unit) × (Unit))) => law22_LookupBuilds_10 N)
    (I := fun s => ∃ (i : Nat) (x : List UInt8 × (Int × Unit)), s = ((d, 3, (i : Int), ()), (x, L, ())) ∧ i ≤ 3 ∧ COk x) (μ := fun s => (3 - s.1.2.2.1).toNat) (T := fun r => r = ((true, ()), ())) ?_ (x := ((d, 3, 0, ()), (c, L, ()))) ⟨0, c, rfl, by omega, hc⟩ (by simp only; omega)
  · obtain ⟨r, h1, rfl⟩ := this; exact h1
  · rintro _ ⟨i, x, rfl, hi, hx⟩
    show ∃ r, law22_LookupBuilds_s3 N d 3 (i : Int) x L = some r ∧ _
    unfold law22_LookupBuilds_s3 law22_LookupBuilds_4 law22_LookupBuilds_6
    by_cases hlt : i < 3
    · obtain ⟨u, c1, e1, u0, u1, k1⟩ := next_ok N (n := 8) hx (by omega)
      obtain ⟨c2, bs, e2, hb, k2⟩ := bytes_ok (N := N) k1 u0 (by omega) (by omega)
      obtain ⟨w, c3, e3, w0, w1, k3⟩ := next_ok N (n := 50) k2 (by omega)
      have hr : inR (i : Int) L.length = true := inR_of (by omega) (by omega)
      have hw : w64 (4050 + w) = 4050 + w := w64_of (by omega) (by omega)
      have hrm : (decide ((0 : Int) ≤ 4050 + w) && decide (4050 + w ≤ 4050 + w) && room (4050 + w).toNat 1) = true := by rw [dpos (by omega), dpos (by omega), room_of (by omega)]; rfl
      rw [dpos (show ((i : Nat) : Int) < 3 by omega), hr]
      simp only [cond_true, e1, e2, e3, Option.bind_some, hw, hrm, Int.toNat_natCast]
      have hlz : (List.replicate (4050 + w).toNat (0 : UInt8)).length ≤ 5000 := by rw [List.length_replicate]; omega
      generalize List.replicate (4050 + w).toNat (0 : UInt8) = z at *
      have hA3 : ([d, bs, z] : List (List UInt8)).length = 3 := rfl
      have hAll : ∀ k, k < 3 → (([d, bs, z] : List (List UInt8)).getD k []).length ≤ 140737488351232 := by
        intro k hk
        have : k = 0 ∨ k = 1 ∨ k = 2 := by omega
        rcases this with rfl | rfl | rfl
        · exact hd
        · show bs.length ≤ _; omega
        · show z.length ≤ _; omega
      rw [hA3]
      generalize ([d, bs, z] : List (List UInt8)) = A at *
      generalize L.getD i ((0, 0, 0, ()), (0, 0, 0, ()), 0, 0, 0, ()) = pk at *
      unfold law22_LookupBuilds_7
      refine ⟨_, (loopK_run (fun k : Nat => ((d, 3, (i : Int), ((3 : Nat) : Int), (k : Int), ()), (c3, pk, L, A, ()))) (n := 3) ?_ (e := ((d, 3, (i : Int), ()), (c3, L, ()))) ?_ (by omega)).trans (show law22_LookupBuilds_9 N d 3 (i : Int) c3 L = _ from rfl), ⟨i + 1, c3, ?_, by omega, k3⟩, ?_⟩
      · intro k hk
        show law22_LookupBuilds_s8 N d 3 (i : Int) ((3 : Nat) : Int) (k : Int) c3 pk L A = _
        unfold law22_LookupBuilds_s8
        obtain ⟨e, r, g1, g2, g3⟩ := build_ok N hN pk (hAll k hk)
        have hr : inR (k : Int) A.length = true := inR_of (by omega) (by omega)
        rw [dpos (by omega), hr]
        simp only [cond_true, Int.toNat_natCast, g1, g2, Option.bind_some, decide_true, Bool.not_true, cond_false]
        rw [equal_ok (by omega) (by omega) (by omega)]
        simp only [Option.bind_some, decide_true, Bool.not_true, cond_false]
        rw [w64_of (by omega) (by omega)]; rfl
      · show law22_LookupBuilds_s8 N d 3 (i : Int) ((3 : Nat) : Int) ((3 : Nat) : Int) c3 pk L A = _
        unfold law22_LookupBuilds_s8
        rfl
      · rw [w64_of (by omega) (by omega)]; rfl
      · simp only; rw [w64_of (by omega) (by omega)]; omega
    · rw [dneg (by omega), cond_false]
      exact ⟨_, rfl, _, rfl, rfl⟩
theorem builds (codes : List UInt8) (hc : codes.length ≤ 9223372036854775807) (p : Pkt) (d : List UInt8) (hd : d.length ≤ 140737488351232) : law22_LookupBuilds 18446744073709551616 codes p d = some ((true, ()), ()) := by
  unfold law22_LookupBuilds
  rw [awake22]
  generalize hN0 : 18446744073709551616 = N
  have hN : 4611686018427387904 ≤ N := by omega
  clear hN0
  simp only [dpos, dneg, w64_of, inR_of, room_of, tmod_of, cond_true, cond_false, Bool.and_self, Bool.and_true, Bool.true_and, Bool.and_false, Bool.false_and, Bool.not_true, Bool.not_false, Option.bind_some, List.length_cons, List.length_nil, Nat.zero_add]
  obtain ⟨c0, e0, k0⟩ := new_ok N codes (m := 120) (by omega) (by omega)
  obtain ⟨q, c1, e1, k1⟩ := apacket_ok N k0
  obtain ⟨u, c2, e2, u0, u1, k2⟩ := next_ok N (n := 5) k1 (by omega)
  simp only [e0, e1, e2, Option.bind_some]
  by_cases h0 : u = 0
  · obtain ⟨v, c3, e3, k3⟩ := int_ok N k2
    rw [dpos h0, cond_true, e3]
    exact builds_1 N hN hd _ _ _ k3
  by_cases h1 : u = 1
  · obtain ⟨v, c3, e3, k3⟩ := int_ok N k2
    rw [dneg h0, dpos h1, cond_false, cond_true, e3]
    exact builds_1 N hN hd _ _ _ k3
  by_cases h2 : u = 2
  · obtain ⟨v, c3, e3, k3⟩ := addr_ok N 6 k2
    rw [dneg h0, dneg h1, dpos h2, cond_false, cond_false, cond_true, e3]
    exact builds_1 N hN hd _ _ _ k3
  by_cases h3 : u = 3
  · rw [dneg h0, dneg h1, dneg h2, dpos h3]
    exact builds_1 N hN hd _ _ _ k2
  · rw [dneg h0, dneg h1, dneg h2, dneg h3]
    exact builds_1 N hN hd _ _ _ k2
end Go.Proofs.Ytgbkkfpheahdfaa.Pl
