/- Plain: packets, addresses and numbers that are made. -/
import Derived.Test.YtgbkkfpheahdfaaLbQCodes
import Derived.Test.YtgbkkfpheahdfaaFnsLookupBuildsA
set_option linter.unusedVariables false
set_option linter.unusedSimpArgs false
namespace Go.Proofs.Ytgbkkfpheahdfaa.Pl
open Go
theorem int_ok (N : Nat) {c : List UInt8 × (Int × Unit)} (hc : COk c) : ∃ v c', make_Codes_Int N c = some ((v, ()), (c', ())) ∧ COk c' := by
  unfold make_Codes_Int
  obtain ⟨u, c1, e1, u0, u1, k1⟩ := next_ok N (n := 4) hc (by omega)
  rw [e1, Option.bind_some]
  by_cases h : u = 3
  · rw [dpos h, cond_true]
    obtain ⟨w, c2, e2, w0, w1, k2⟩ := next_ok N (n := 12) k1 (by omega)
    show ∃ v c', Option.bind (make_Codes_Next N 12 c1) _ = _ ∧ _
    rw [e2, Option.bind_some, inR_of w0 (by simpa using w1)]
    exact ⟨_, _, rfl, k2⟩
  · rw [dneg h, cond_false]
    obtain ⟨w, c2, e2, w0, w1, k2⟩ := next_ok N (n := 60) k1 (by omega)
    rw [e2]
    exact ⟨_, _, rfl, k2⟩
theorem addr_ok (N : Nat) {c : List UInt8 × (Int × Unit)} (f : Int) (hc : COk c) : ∃ a c', make_Codes_Address N f c = some ((a, ()), (c', ())) ∧ COk c' := by
  unfold make_Codes_Address
  by_cases hf : f = 4
  · obtain ⟨u, c2, e2, u0, u1, k2⟩ := next_ok N (n := 4) hc (by omega)
    obtain ⟨z, c3, e3, z0, z1, k3⟩ := next_ok N (n := 8) k2 (by omega)
    rw [dpos hf, e2]
    simp only [cond_true, Option.bind_some]
    rw [inR_of u0 (by simpa using u1), cond_true, e3]
    exact ⟨_, _, rfl, k3⟩
  · obtain ⟨u, c2, e2, u0, u1, k2⟩ := next_ok N (n := 3) hc (by omega)
    obtain ⟨z, c3, e3, z0, z1, k3⟩ := next_ok N (n := 3) k2 (by omega)
    obtain ⟨y, c4, e4, y0, y1, k4⟩ := next_ok N (n := 8) k3 (by omega)
    rw [dneg hf, e2]
    simp only [cond_false, Option.bind_some]
    rw [inR_of u0 (by simpa using u1), cond_true, e3]
    simp only [Option.bind_some]
    rw [inR_of z0 (by simpa using z1), cond_true, e4]
    exact ⟨_, _, rfl, k4⟩
theorem aport_ok (N : Nat) {c : List UInt8 × (Int × Unit)} (hc : COk c) : ∃ v c', make_Codes_port N c = some ((v, ()), (c', ())) ∧ COk c' := by
  unfold make_Codes_port
  obtain ⟨u, c1, e1, u0, u1, k1⟩ := next_ok N (n := 5) hc (by omega)
  obtain ⟨z, c2, e2, z0, z1, k2⟩ := next_ok N (n := 6) k1 (by omega)
  rw [e1]
  simp only [Option.bind_some]
  rw [inR_of u0 (by simpa using u1), cond_true, e2]
  exact ⟨_, _, rfl, k2⟩
theorem apacket_ok (N : Nat) {c : List UInt8 × (Int × Unit)} (hc : COk c) : ∃ p c', make_Codes_Packet N c = some ((p, ()), (c', ())) ∧ COk c' := by
  unfold make_Codes_Packet
  obtain ⟨v, c1, e1, v0, v1, k1⟩ := next_ok N (n := 4) hc (by omega)
  rw [e1]
  simp only [Option.bind_some]
  have key : ∀ (f : Int) t, ∃ p c', make_Codes_Packet_1 N f c1 t = some ((p, ()), (c', ())) ∧ COk c' := by
    intro f t
    unfold make_Codes_Packet_1
    obtain ⟨a, c2, e2, k2⟩ := addr_ok N f k1
    obtain ⟨b, c3, e3, k3⟩ := addr_ok N f k2
    obtain ⟨u, c4, e4, u0, u1, k4⟩ := next_ok N (n := 8) k3 (by omega)
    obtain ⟨w, c5, e5, w0, w1, k5⟩ := next_ok N (n := 4) k4 (by omega)
    rw [e2]; simp only [Option.bind_some]
    rw [e3]; simp only [Option.bind_some]
    rw [e4]; simp only [Option.bind_some]
    rw [inR_of u0 (by simpa using u1), cond_true, e5]
    simp only [Option.bind_some]
    by_cases h0 : w = 0
    · rw [dpos h0]; exact ⟨_, _, rfl, k5⟩
    by_cases h1 : w = 1
    · rw [dneg h0, dpos h1]
      obtain ⟨y, c6, e6, k6⟩ := aport_ok N k5
      rw [e6]
      exact ⟨_, _, rfl, k6⟩
    · rw [dneg h0, dneg h1]
      obtain ⟨y, c6, e6, k6⟩ := aport_ok N k5
      obtain ⟨z, c7, e7, k7⟩ := aport_ok N k6
      rw [e6]
      simp only [cond_false, Option.bind_some]
      rw [e7]
      exact ⟨_, _, rfl, k7⟩
  by_cases h3 : v = 3
  · rw [dpos h3]; exact key 6 ((0, 0, 0, ()), (0, 0, 0, ()), 0, 0, 0, ())
  · rw [dneg h3]; exact key 4 ((0, 0, 0, ()), (0, 0, 0, ()), 0, 0, 0, ())
end Go.Proofs.Ytgbkkfpheahdfaa.Pl
