/- Plain: the walk of the law LookupHides. -/
import Derived.Test.YtgbkkfpheahdfaaLrQHides
set_option linter.unusedVariables false
set_option linter.unusedSimpArgs false
namespace Go.Proofs.Ytgbkkfpheahdfaa.Pl
open Go
theorem hid_both {p : Pk} (h : p.2.2.1 = 6 ∨ p.2.2.1 = 17) (hs : p.2.2.2.1 = -1) (ht : p.2.2.2.2.1 = -1) : hidV p = (true, true) := by
  unfold hidV
  rw [if_pos h, hs, ht]; rfl
theorem hid_one {p : Pk} (h : p.2.2.1 = 1 ∨ p.2.2.1 = 58) (hs : p.2.2.2.1 = -1) : hidV p = (true, false) := by
  unfold hidV
  rw [if_neg (by omega), if_pos h, hs]; rfl
/-- A packet with hidden ports. -/
structure HPk (p : Pk) : Prop where
  ok : POk p
  pr : p.2.2.1 = 6 ∨ p.2.2.1 = 17 ∨ p.2.2.1 = 1 ∨ p.2.2.1 = 58
  src : p.2.2.2.1 = -1
  tgt : (p.2.2.1 = 6 ∨ p.2.2.1 = 17) → p.2.2.2.2.1 = -1
theorem HPk.hid {p : Pk} (h : HPk p) : hid p = true := by
  unfold Pl.hid
  rcases h.pr with e | e | e | e
  · rw [hid_both (.inl e) h.src (h.tgt (.inl e))]; rfl
  · rw [hid_both (.inr e) h.src (h.tgt (.inr e))]; rfl
  · rw [hid_one (.inl e) h.src]; rfl
  · rw [hid_one (.inr e) h.src]; rfl
theorem port_max {x : Int} (h : x ≤ 65535) : 0 ≤ (bif decide (0 < x) then x else (0 : Int)) ∧ (bif decide (0 < x) then x else (0 : Int)) ≤ 65535 := by
  by_cases h0 : 0 < x
  · rw [dpos h0]; exact ⟨by simp only [cond_true]; omega, h⟩
  · rw [dneg h0]; exact ⟨by simp, by simp⟩
section
variable (N : Nat) (hN : 4611686018427387904 ≤ N) {l : List Rl} (hl : l.length ≤ 1000) (hB : ∀ r ∈ l, r.2.2.1.length ≤ 1000 ∧ ∀ b ∈ r.2.2.1, BOk b) (o : Bool)
include hN hl hB
theorem hides_20 {p : Pk} (hp : HPk p) {ρ : Nat} (H : ∀ i, i < ρ → cdR (l.getD i rz) p o = false) (i n : Nat) (hn : n < 24) {c : Cd} (hc : COk c) {ports : List Int} (hq : PtsOk ports) (hne : 0 < ports.length) :
    ∃ c', law22_LookupHides_20 N o (i : Int) (ρ : Int) (n : Int) true l c p ports = some (.go ((o, (i : Int), (ρ : Int), ((n + 1 : Nat) : Int), ()), (l, c', p, ports, ()))) ∧ COk c' := by
  have hl' : l.length ≤ 1000000 := by omega
  have hB' : ∀ r ∈ l, r.2.2.1.length ≤ 1000000 ∧ ∀ b ∈ r.2.2.1, BOk b := fun r hr => ⟨by have := (hB r hr).1; omega, (hB r hr).2⟩
  have hw : w64 ((n : Int) + 1) = ((n + 1 : Nat) : Int) := by rw [w64_of (by omega) (by omega)]; rfl
  unfold law22_LookupHides_20
  rw [cond_true]
  obtain ⟨v, c1, e1, v0, v1, k1⟩ := next_ok N (n := 256) hc (by omega)
  rw [e1, Option.bind_some]
  obtain ⟨a1, a2, a3, a4⟩ := pick_port hq hne v0
  simp only [a1, a2, cond_true, hw]
  generalize ports.getD (v.tmod (ports.length : Int)).toNat 0 = x at a3 a4 ⊢
  have a0 : -1 ≤ x := by omega
  by_cases h6 : p.2.2.1 = 6
  · have hh := hid_both (.inl h6) hp.src (hp.tgt (.inl h6))
    obtain ⟨u, c2, e2, u0, u1, k2⟩ := next_ok N (n := 256) k1 (by omega)
    obtain ⟨b1, b2, b3, b4⟩ := pick_port hq hne u0
    rw [dpos h6, cond_true, e2, Option.bind_some]
    simp only [b1, b2, cond_true]
    generalize ports.getD (u.tmod (ports.length : Int)).toNat 0 = y at b3 b4 ⊢
    have b0 : -1 ≤ y := by omega
    exact ⟨c2, rule_cont N hN hl' hB' (p := p) (q := (p.1, p.2.1, p.2.2.1, x, y, ())) ⟨hp.ok.1, ⟨a0, a4⟩, ⟨b0, b4⟩⟩ o H rfl rfl rfl (by rw [hh]; exact a3) (by rw [hh]; exact b3) _ _, k2⟩
  by_cases h17 : p.2.2.1 = 17
  · have hh := hid_both (.inr h17) hp.src (hp.tgt (.inr h17))
    obtain ⟨u, c2, e2, u0, u1, k2⟩ := next_ok N (n := 256) k1 (by omega)
    obtain ⟨b1, b2, b3, b4⟩ := pick_port hq hne u0
    rw [dneg h6, dpos h17, cond_false, cond_true, e2, Option.bind_some]
    simp only [b1, b2, cond_true]
    generalize ports.getD (u.tmod (ports.length : Int)).toNat 0 = y at b3 b4 ⊢
    have b0 : -1 ≤ y := by omega
    exact ⟨c2, rule_cont N hN hl' hB' (p := p) (q := (p.1, p.2.1, p.2.2.1, x, y, ())) ⟨hp.ok.1, ⟨a0, a4⟩, ⟨b0, b4⟩⟩ o H rfl rfl rfl (by rw [hh]; exact a3) (by rw [hh]; exact b3) _ _, k2⟩
  · have hh := hid_one (p := p) (by have := hp.pr; omega) hp.src
    rw [dneg h6, dneg h17, cond_false, cond_false]
    exact ⟨c1, rule_cont N hN hl' hB' (p := p) (q := (p.1, p.2.1, p.2.2.1, x, p.2.2.2.2.1, ())) ⟨hp.ok.1, ⟨a0, a4⟩, hp.ok.2.2⟩ o H rfl rfl rfl (by rw [hh]; exact a3) (by rw [hh]; rfl) _ _, k1⟩
theorem hides_17 {p : Pk} (hp : HPk p) {ρ : Nat} (H : ∀ i, i < ρ → cdR (l.getD i rz) p o = false) (i : Nat) (hi : i < 6) {c : Cd} (hc : COk c) {ports : List Int} (hq : PtsOk ports) :
    ∃ c', law22_LookupHides_17 N o (i : Int) (ρ : Int) l c p ports = some (.go ((o, ((i + 1 : Nat) : Int), ()), (l, c', ()))) ∧ COk c' := by
  unfold law22_LookupHides_17 law22_LookupHides_18
  have hend : ∀ d : Cd, law22_LookupHides_8 N o (i : Int) l d = some (.go ((o, ((i + 1 : Nat) : Int), ()), (l, d, ()))) := fun d => by
    unfold law22_LookupHides_8
    rw [w64_of (by omega) (by omega)]; rfl
  have := loopK_of (N := N) (step := fun y => law22_LookupHides_s19 N y.1.1 y.1.2.1 y.1.2.2.1 y.1.2.2.2.1 y.2.1 y.2.2.1 y.2.2.2.1 y.2.2.2.2.1) (J := fun (e : ((Bool × Int × Unit) × ((List Rl) × Cd × Unit))) => law22_LookupHides_8 N e.1.1 e.1.2.1 e.2.1 e.2.2.1)
    (I := fun y => ∃ (n : Nat) (d : Cd), y = ((o, (i : Int), (ρ : Int), (n : Int), ()), (l, d, p, ports, ())) ∧ COk d ∧ n ≤ 24) (μ := fun y => (24 - y.1.2.2.2.1).toNat) (T := fun r => ∃ d, r = .go ((o, ((i + 1 : Nat) : Int), ()), (l, d, ())) ∧ COk d) ?_
    (x := ((o, (i : Int), (ρ : Int), 0, ()), (l, c, p, ports, ()))) ⟨0, c, rfl, hc, by omega⟩ (by simp only; omega)
  · obtain ⟨r, h1, d, rfl, h2⟩ := this
    exact ⟨d, h1, h2⟩
  · rintro _ ⟨n, d, rfl, hd, hn⟩
    show ∃ r, law22_LookupHides_s19 N o (i : Int) (ρ : Int) (n : Int) l d p ports = some r ∧ _
    unfold law22_LookupHides_s19
    have hbr : ∃ r, law22_LookupHides_20 N o (i : Int) (ρ : Int) (n : Int) false l d p ports = some r ∧ r = .br ((o, (i : Int), ()), (l, d, ())) := by
      unfold law22_LookupHides_20
      exact ⟨_, rfl, rfl⟩
    by_cases hlt : n < 24
    · rw [dpos (show (n : Int) < 24 by omega), cond_true]
      by_cases hne : 0 < ports.length
      · obtain ⟨d', e, hd'⟩ := hides_20 N hN hl hB o hp H i n hlt hd hq hne
        rw [dpos (show (0 : Int) < (ports.length : Int) by omega), e]
        exact ⟨_, rfl, ⟨n + 1, d', rfl, hd', by omega⟩, by simp only; omega⟩
      · rw [dneg (show ¬ (0 : Int) < (ports.length : Int) by omega)]
        obtain ⟨r, e, rfl⟩ := hbr
        rw [e]
        exact ⟨_, rfl, _, hend d, d, rfl, hd⟩
    · rw [dneg (show ¬ (n : Int) < 24 by omega), cond_false]
      obtain ⟨r, e, rfl⟩ := hbr
      rw [e]
      exact ⟨_, rfl, _, hend d, d, rfl, hd⟩
theorem hides_9 {p : Pk} (hp : HPk p) {ρ : Nat} (H : ∀ i, i < ρ → cdR (l.getD i rz) p o = false) (i : Nat) (hi : i < 6) {c : Cd} (hc : COk c) :
    ∃ c', law22_LookupHides_9 N o (i : Int) (ρ : Int) (l.length : Int) 0 l c p [] = some (.go ((o, ((i + 1 : Nat) : Int), ()), (l, c', ()))) ∧ COk c' := by
  unfold law22_LookupHides_9
  have := loopK_of (N := N) (step := fun y => law22_LookupHides_s10 N y.1.1 y.1.2.1 y.1.2.2.1 y.1.2.2.2.1 y.1.2.2.2.2.1 y.2.1 y.2.2.1 y.2.2.2.1 y.2.2.2.2.1) (J := fun (e : ((Bool × Int × Int × Unit) × ((List Rl) × Cd × Pk × (List Int) × Unit))) => law22_LookupHides_17 N e.1.1 e.1.2.1 e.1.2.2.1 e.2.1 e.2.2.1 e.2.2.2.1 e.2.2.2.2.1)
    (I := fun y => ∃ (k : Nat) (ports : List Int), y = ((o, (i : Int), (ρ : Int), (l.length : Int), (k : Int), ()), (l, c, p, ports, ())) ∧ PtsOk ports ∧ k ≤ l.length ∧ ports.length ≤ 4000 * k) (μ := fun y => ((l.length : Int) - y.1.2.2.2.2.1).toNat) (T := fun r => ∃ d, r = .go ((o, ((i + 1 : Nat) : Int), ()), (l, d, ())) ∧ COk d) ?_
    (x := ((o, (i : Int), (ρ : Int), (l.length : Int), 0, ()), (l, c, p, [], ()))) ⟨0, [], rfl, by intro x hx; simp at hx, by omega, by simp⟩ (by simp only; omega)
  · obtain ⟨r, h1, d, rfl, h2⟩ := this
    exact ⟨d, h1, h2⟩
  · rintro _ ⟨k, ports, rfl, hq, hk, hpl⟩
    show ∃ r, law22_LookupHides_s10 N o (i : Int) (ρ : Int) (l.length : Int) (k : Int) l c p ports = some r ∧ _
    unfold law22_LookupHides_s10
    by_cases hlt : k < l.length
    · rw [dpos (show (k : Int) < (l.length : Int) by omega), cond_true]
      unfold law22_LookupHides_11 law22_LookupHides_13
      rw [inRN hlt]
      simp only [cond_true, Int.toNat_natCast]
      have hr := hB _ (getD_mem hlt rz)
      have h14 : ∀ B : List Bx, B.length ≤ 1000 → (∀ b ∈ B, BOk b) → ∃ ports', law22_LookupHides_14 N o (i : Int) (ρ : Int) (l.length : Int) (k : Int) B (B.length : Int) 0 l c p ports = some (.go ((o, (i : Int), (ρ : Int), (l.length : Int), ((k + 1 : Nat) : Int), ()), (l, c, p, ports', ()))) ∧ PtsOk ports' ∧ ports'.length ≤ 4000 * (k + 1) := by
        intro B hBl hBb
        unfold law22_LookupHides_14
        have := loopK_of (N := N) (step := fun y => law22_LookupHides_s15 N y.1.1 y.1.2.1 y.1.2.2.1 y.1.2.2.2.1 y.1.2.2.2.2.1 y.1.2.2.2.2.2.1 y.1.2.2.2.2.2.2.1 y.1.2.2.2.2.2.2.2.1 y.2.1 y.2.2.1 y.2.2.2.1 y.2.2.2.2.1) (J := fun (e : ((Bool × Int × Int × Int × Int × Unit) × ((List Rl) × Cd × Pk × (List Int) × Unit))) => law22_LookupHides_16 N e.1.1 e.1.2.1 e.1.2.2.1 e.1.2.2.2.1 e.1.2.2.2.2.1 e.2.1 e.2.2.1 e.2.2.2.1 e.2.2.2.2.1)
          (I := fun y => ∃ (j : Nat) (ports' : List Int), y = ((o, (i : Int), (ρ : Int), (l.length : Int), (k : Int), B, (B.length : Int), (j : Int), ()), (l, c, p, ports', ())) ∧ PtsOk ports' ∧ j ≤ B.length ∧ ports'.length ≤ 4000 * k + 4 * j) (μ := fun y => ((B.length : Int) - y.1.2.2.2.2.2.2.2.1).toNat)
          (T := fun r => ∃ ports', r = .go ((o, (i : Int), (ρ : Int), (l.length : Int), ((k + 1 : Nat) : Int), ()), (l, c, p, ports', ())) ∧ PtsOk ports' ∧ ports'.length ≤ 4000 * (k + 1)) ?_
          (x := ((o, (i : Int), (ρ : Int), (l.length : Int), (k : Int), B, (B.length : Int), 0, ()), (l, c, p, ports, ()))) ⟨0, ports, rfl, hq, by omega, by omega⟩ (by simp only; omega)
        · obtain ⟨r, h1, ports', rfl, h2⟩ := this
          exact ⟨ports', h1, h2⟩
        · rintro _ ⟨j, ports', rfl, hq', hj, hpl'⟩
          show ∃ r, law22_LookupHides_s15 N o (i : Int) (ρ : Int) (l.length : Int) (k : Int) B (B.length : Int) (j : Int) l c p ports' = some r ∧ _
          unfold law22_LookupHides_s15
          by_cases hjl : j < B.length
          · rw [dpos (show (j : Int) < (B.length : Int) by omega), inRN hjl, w64_of (by omega) (by omega)]
            simp only [cond_true, Int.toNat_natCast]
            have hb := hBb _ (getD_mem hjl bz)
            have b1 := bok_lp hb
            have b2 := bok_rp hb
            have b3 := bok_l01 hb
            rw [room_of (by simp only [List.length_cons, List.length_nil]; omega), cond_true]
            refine ⟨_, rfl, ⟨j + 1, _, rfl, ?_, by omega, ?_⟩, by simp only; omega⟩
            · intro x hx
              rcases List.mem_append.1 hx with hx | hx
              · exact hq' x hx
              · simp only [List.mem_cons, List.not_mem_nil, or_false] at hx
                rcases hx with rfl | rfl | rfl | rfl
                · exact port_max (show lp0 (B.getD j bz) ≤ 65535 by omega)
                · exact port_max (show lp1 (B.getD j bz) ≤ 65535 by omega)
                · exact port_max (show rp0 (B.getD j bz) ≤ 65535 by omega)
                · exact port_max (show rp1 (B.getD j bz) ≤ 65535 by omega)
            · rw [List.length_append]; simp only [List.length_cons, List.length_nil]; omega
          · rw [dneg (show ¬ (j : Int) < (B.length : Int) by omega), cond_false]
            refine ⟨_, rfl, .go ((o, (i : Int), (ρ : Int), (l.length : Int), ((k + 1 : Nat) : Int), ()), (l, c, p, ports', ())), ?_, ports', rfl, hq', by omega⟩
            show law22_LookupHides_16 N o (i : Int) (ρ : Int) (l.length : Int) (k : Int) l c p ports' = _
            unfold law22_LookupHides_16
            rw [w64_of (by omega) (by omega)]; rfl
      obtain ⟨ports', e, h1, h2⟩ := h14 _ hr.1 hr.2
      exact ⟨_, e, ⟨k + 1, ports', rfl, h1, by omega, h2⟩, by simp only; omega⟩
    · rw [dneg (show ¬ (k : Int) < (l.length : Int) by omega), cond_false]
      obtain ⟨d, e, hd⟩ := hides_17 N hN hl hB o hp H i hi hc hq
      exact ⟨_, rfl, _, e, d, rfl, hd⟩
theorem hides_7 {p : Pk} (hp : HPk p) (i : Nat) (hi : i < 6) {c : Cd} (hc : COk c) : ∃ c', law22_LookupHides_7 N o (i : Int) l c p = some (.go ((o, ((i + 1 : Nat) : Int), ()), (l, c', ()))) ∧ COk c' := by
  unfold law22_LookupHides_7
  rw [action_p N hN l (by omega) (fun r hr => ⟨by have := (hB r hr).1; omega, (hB r hr).2⟩) hp.ok o, Option.bind_some]
  by_cases ha : (actV l p o).1 = 1
  · obtain ⟨ρ, e, _, H⟩ := act_bypass hp.hid ha
    simp only [dpos ha, Bool.not_true, cond_false, e]
    exact hides_9 N hN hl hB o hp H i hi hc
  · simp only [dneg ha, Bool.not_false, cond_true]
    unfold law22_LookupHides_8
    rw [w64_of (by omega) (by omega)]
    exact ⟨c, rfl, hc⟩
theorem hides_5 (i : Nat) (hi : i < 6) {c : Cd} (hc : COk c) : ∃ c', law22_LookupHides_5 N o (i : Int) l c = some (.go ((o, ((i + 1 : Nat) : Int), ()), (l, c', ()))) ∧ COk c' := by
  unfold law22_LookupHides_5
  obtain ⟨p, c1, e1, k1, hp⟩ := packet_ok N hc
  obtain ⟨v, c2, e2, v0, v1, k2⟩ := next_ok N (n := 4) k1 (by omega)
  rw [e1, Option.bind_some, e2, Option.bind_some, inR_of v0 (by simpa using v1), cond_true]
  simp only []
  obtain ⟨k, rfl⟩ := Int.eq_ofNat_of_zero_le v0
  have hk : k = 0 ∨ k = 1 ∨ k = 2 ∨ k = 3 := by omega
  rcases hk with rfl | rfl | rfl | rfl
  · exact hides_7 N hN hl hB o (p := (p.1, p.2.1, 6, -1, -1, ())) ⟨⟨by simp, by simp, by simp⟩, .inl rfl, rfl, fun _ => rfl⟩ i hi k2
  · exact hides_7 N hN hl hB o (p := (p.1, p.2.1, 17, -1, -1, ())) ⟨⟨by simp, by simp, by simp⟩, .inr (.inl rfl), rfl, fun _ => rfl⟩ i hi k2
  · exact hides_7 N hN hl hB o (p := (p.1, p.2.1, 1, -1, p.2.2.2.2.1, ())) ⟨⟨by simp, by simp, hp.2.2⟩, .inr (.inr (.inl rfl)), rfl, fun h => by simp at h⟩ i hi k2
  · exact hides_7 N hN hl hB o (p := (p.1, p.2.1, 58, -1, p.2.2.2.2.1, ())) ⟨⟨by simp, by simp, hp.2.2⟩, .inr (.inr (.inr rfl)), rfl, fun h => by simp at h⟩ i hi k2
end
theorem hides (codes : List UInt8) (hc : codes.length ≤ 9223372036854775807) (packets : List UInt8) (hp : packets.length ≤ 9223372036854775807) (o : Bool) :
    law22_LookupHides 18446744073709551616 codes packets o = some ((true, ()), ()) := by
  unfold law22_LookupHides
  rw [awake22]
  generalize hN0 : 18446744073709551616 = N
  have hN : 4611686018427387904 ≤ N := by omega
  clear hN0
  simp only [Option.bind_some, Bool.not_true, cond_false]
  obtain ⟨c0, e0, k0⟩ := new_ok N codes (m := 240) (by omega) (by omega)
  obtain ⟨l, c1, e1, k1, hl⟩ := rules_ok N hN (m := 4) (by omega) k0
  obtain ⟨d0, e2, k2⟩ := new_ok N packets (m := 160) (by omega) (by omega)
  have e1' : make_Codes_Rules N (4 : Int) c0 = _ := e1
  rw [e0, Option.bind_some, e1', Option.bind_some, e2, Option.bind_some]
  have hlen : l.length ≤ 1000 := by have := hl.1; omega
  have hB : ∀ r ∈ l, r.2.2.1.length ≤ 1000 ∧ ∀ b ∈ r.2.2.1, BOk b := fun r hr => ⟨by have := (hl.2 r hr).len; omega, (hl.2 r hr).box⟩
  show law22_LookupHides_1 N o 0 l d0 = _
  unfold law22_LookupHides_1
  have := loopK_of (N := N) (step := fun y => law22_LookupHides_s2 N y.1.1 y.1.2.1 y.2.1 y.2.2.1) (J := fun (e : ((Unit) × (Unit))) => law22_LookupHides_21 N)
    (I := fun y => ∃ (i : Nat) (d : Cd), y = ((o, (i : Int), ()), (l, d, ())) ∧ COk d ∧ i ≤ 6) (μ := fun y => (6 - y.1.2.1).toNat) (T := fun r => r = ((true, ()), ())) ?_ (x := ((o, 0, ()), (l, d0, ()))) ⟨0, d0, rfl, k2, by omega⟩ (by simp only; omega)
  · obtain ⟨r, h1, rfl⟩ := this
    exact h1
  · rintro _ ⟨i, d, rfl, hd, hi⟩
    show ∃ r, law22_LookupHides_s2 N o (i : Int) l d = some r ∧ _
    unfold law22_LookupHides_s2
    by_cases hlt : i < 6
    · rw [dpos (show (i : Int) < 6 by omega), cond_true]
      unfold law22_LookupHides_3
      obtain ⟨d', e, hd'⟩ := hides_5 N hN hlen hB o i hlt hd
      rw [e]
      exact ⟨_, rfl, ⟨i + 1, d', rfl, hd', by omega⟩, by simp only; omega⟩
    · rw [dneg (show ¬ (i : Int) < 6 by omega), cond_false]
      exact ⟨_, rfl, _, rfl, rfl⟩
end Go.Proofs.Ytgbkkfpheahdfaa.Pl
