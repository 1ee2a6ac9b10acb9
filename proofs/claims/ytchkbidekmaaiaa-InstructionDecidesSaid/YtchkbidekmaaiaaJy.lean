/- InstructionCalculates, InstructionDecides: the walks. -/
import Derived.Test.YtchkbidekmaaiaaJw
import Derived.Test.YtchkbidekmaaiaaBt3
namespace Go.Proofs.Ytchkbidekmaaiaa
open Go.RowKit
set_option linter.unusedVariables false
attribute [local go_sem ↓] Go.wp_at_zero Go.wp_at_succ

theorem of_any (op a b r : Int) (h0 : 8 ≤ op) (h1 : op ≤ 26) (hd : op ≠ 11 ∧ op ≠ 12) (hr : apV op a b = r) (a0 : 0 ≤ a) (a1 : a ≤ 4294967295) (b0 : 0 ≤ b) (b1 : b ≤ 4294967295) (w : World) :
    Calls Try.prog 20 #[.int .i64 op, .int .u32 a, .int .u32 b] w fun x w' => x = .returned (.tuple #[.int .u32 r, .bool true]) ∧ Ext w w' := by
  have c1 := iapply_any op a b a0 a1 b0 b1
  rw [apF_in h0 h1 (Or.inr hd), hr] at c1
  replace c1 := hidden c1
  clear hr hd
  go_enter Try.func20, Try.ntmps20
  go_wp2_with fail
  refine (c1.out _).mono ?_
  rintro e w1 ⟨rfl, g1⟩
  go_wp2_with fail
  go_ret2
  exact ⟨rfl, g1⟩

set_option maxHeartbeats 4000000 in
set_option maxRecDepth 100000 in
theorem calc_walk (a b S lo hi X Y Z : Int) (a0 : 0 ≤ a) (a1 : a ≤ 4294967295) (b0 : 0 ≤ b) (b1 : b ≤ 4294967295)
    (hS : (a + b) % 4294967296 = S) (hb : (S - b) % 4294967296 = a) (hlo : min a b = lo) (hhi : max a b = hi) (hlh : lo ≤ hi) (hll : lo = a ∨ lo = b) (hsum : (lo + hi) % 4294967296 = S)
    (hX : bits .and .u32 a b = X) (hY : bits .or .u32 a b = Y) (hZ : bits .xor .u32 a b = Z) (hYX : (Y - X) % 4294967296 = Z) (hYS : (Y + X) % 4294967296 = S)
    (Sb : 0 ≤ S ∧ S ≤ 4294967295) (w : World) :
    Calls Try.prog 7 #[.int .u32 a, .int .u32 b] w fun x w' => x = .returned (.bool true) ∧ Ext w w' := by
  have c1 := of_any 8 a b S (by omega) (by omega) (by omega) ((apV_8 a b).trans hS) a0 a1 b0 b1
  have c2 := of_any 9 S b a (by omega) (by omega) (by omega) ((apV_9 S b).trans hb) Sb.1 Sb.2 b0 b1
  have c3 := of_any 18 a b lo (by omega) (by omega) (by omega) ((apV_18 a b).trans hlo) a0 a1 b0 b1
  have c4 := of_any 19 a b hi (by omega) (by omega) (by omega) ((apV_19 a b).trans hhi) a0 a1 b0 b1
  have c5 := of_any 13 a b X (by omega) (by omega) (by omega) ((apV_13 a b).trans hX) a0 a1 b0 b1
  have c6 := of_any 14 a b Y (by omega) (by omega) (by omega) ((apV_14 a b).trans hY) a0 a1 b0 b1
  have c7 := of_any 15 a b Z (by omega) (by omega) (by omega) ((apV_15 a b).trans hZ) a0 a1 b0 b1
  have e1 : (lo != a) = false ∨ ((lo != a) = true ∧ (lo != b) = false) := by
    by_cases h : lo = a
    · left; simp [h]
    · right; refine ⟨by simp [h], ?_⟩; rcases hll with h2 | h2; exact absurd h2 h; simp [h2]
  replace c1 := hidden c1
  replace c2 := hidden c2
  replace c3 := hidden c3
  replace c4 := hidden c4
  replace c5 := hidden c5
  replace c6 := hidden c6
  replace c7 := hidden c7
  clear hS hb hlo hhi hX hY hZ hll
  have w1' : IntKind.u32.wrap (lo + hi) = S := by rw [IntKind.wrap_u32]; exact hsum
  have w2' : IntKind.u32.wrap (Y - X) = Z := by rw [IntKind.wrap_u32]; exact hYX
  have w3' : IntKind.u32.wrap (Y + X) = S := by rw [IntKind.wrap_u32]; exact hYS
  have hlh2 : ¬ hi < lo := by omega
  obtain ⟨S0, S1⟩ := Sb
  have hdiv : Hid (b ≠ 0 → ∃ Q M r : Int, apF 11 a b = (Q, 0) ∧ apF 12 a b = (r, 0) ∧ apV 10 Q b = M ∧ M + r = a ∧ 0 ≤ M ∧ 0 ≤ r ∧ r < b ∧ 0 ≤ Q ∧ Q ≤ 4294967295) := by
    intro h
    have hb0 : 0 < b := by omega
    have h1 := Int.emod_nonneg a h
    have h2 := Int.emod_lt_of_pos a hb0
    have h3 : 0 ≤ a / b := Int.ediv_nonneg a0 b0
    have h4 : a / b ≤ a := Int.ediv_le_self _ a0
    have h5 := Int.mul_ediv_add_emod a b
    have h6 : a / b * b = b * (a / b) := Int.mul_comm _ _
    have h7 : 0 ≤ b * (a / b) := Int.mul_nonneg b0 h3
    refine ⟨a / b, a / b * b, a % b, ?_, ?_, ?_, by omega, by omega, h1, h2, h3, by omega⟩
    · rw [apF_in (by omega) (by omega) (Or.inl h), apV_11]
    · rw [apF_in (by omega) (by omega) (Or.inl h), apV_12]
    · rw [apV_10]; exact Int.emod_eq_of_lt (by omega) (by omega)
  rcases e1 with e1 | ⟨e1, e2⟩
  all_goals
    by_cases hz : b = 0
    · subst hz
      have d1 := iapply_any 11 a 0 a0 a1 (by omega) (by omega)
      have d2 := iapply_any 12 a 0 a0 a1 (by omega) (by omega)
      rw [apF_div rfl (Or.inl rfl)] at d1
      rw [apF_div rfl (Or.inr rfl)] at d2
      replace d1 := hidden d1
      replace d2 := hidden d2
      clear hdiv
      go_enter Try.func7, Try.ntmps7
      go_wp2_with fail
      refine (c1.out _).mono ?_
      rintro e v1 ⟨rfl, g1⟩
      go_wp2_with fail
      refine (c2.out _).mono ?_
      rintro e v2 ⟨rfl, g2⟩
      go_wp2_with fail
      refine (c3.out _).mono ?_
      rintro e v3 ⟨rfl, g3⟩
      go_wp2_with fail
      refine (c4.out _).mono ?_
      rintro e v4 ⟨rfl, g4⟩
      go_wp2_with fail
      refine (c5.out _).mono ?_
      rintro e v5 ⟨rfl, g5⟩
      go_wp2_with fail
      refine (c6.out _).mono ?_
      rintro e v6 ⟨rfl, g6⟩
      go_wp2_with fail
      refine (c7.out _).mono ?_
      rintro e v7 ⟨rfl, g7⟩
      go_wp2_with fail
      refine (d1.out _).mono ?_
      rintro e v8 ⟨rfl, g8⟩
      go_wp2_with fail
      refine (d2.out _).mono ?_
      rintro e v9 ⟨rfl, g9⟩
      go_wp2_with fail
      refine (awake_any _).mono ?_
      rintro e v10 ⟨rfl, g10⟩
      go_wp2_with fail
      go_ret
      exact ⟨rfl, ((((((((g1.trans g2).trans g3).trans g4).trans g5).trans g6).trans g7).trans g8).trans g9).trans g10⟩
    · obtain ⟨Q, M, r, f1, f2, f3, f4, f5, f6, f7, f8, f9⟩ := hdiv.out hz
      have d1 := iapply_any 11 a b a0 a1 b0 b1
      have d2 := iapply_any 12 a b a0 a1 b0 b1
      have d3 := of_any 10 Q b M (by omega) (by omega) (by omega) f3 f8 f9 b0 b1
      rw [f1] at d1
      rw [f2] at d2
      replace d1 := hidden d1
      replace d2 := hidden d2
      replace d3 := hidden d3
      have hz' : (b == 0) = false := by simp [hz]
      clear f1 f2 f3 hdiv hz
      go_enter Try.func7, Try.ntmps7
      go_wp2_with fail
      refine (c1.out _).mono ?_
      rintro e v1 ⟨rfl, g1⟩
      go_wp2_with fail
      refine (c2.out _).mono ?_
      rintro e v2 ⟨rfl, g2⟩
      go_wp2_with fail
      refine (c3.out _).mono ?_
      rintro e v3 ⟨rfl, g3⟩
      go_wp2_with fail
      refine (c4.out _).mono ?_
      rintro e v4 ⟨rfl, g4⟩
      go_wp2_with fail
      refine (c5.out _).mono ?_
      rintro e v5 ⟨rfl, g5⟩
      go_wp2_with fail
      refine (c6.out _).mono ?_
      rintro e v6 ⟨rfl, g6⟩
      go_wp2_with fail
      refine (c7.out _).mono ?_
      rintro e v7 ⟨rfl, g7⟩
      go_wp2_with fail
      refine (d1.out _).mono ?_
      rintro e v8 ⟨rfl, g8⟩
      go_wp2_with fail
      refine (d2.out _).mono ?_
      rintro e v9 ⟨rfl, g9⟩
      go_wp2_with fail
      refine (d3.out _).mono ?_
      rintro e v11 ⟨rfl, g11⟩
      go_wp2_with fail
      refine (awake_any _).mono ?_
      rintro e v10 ⟨rfl, g10⟩
      go_wp2_with fail
      go_ret
      exact ⟨rfl, (((((((((g1.trans g2).trans g3).trans g4).trans g5).trans g6).trans g7).trans g8).trans g9).trans g11).trans g10⟩
theorem InstructionCalculates_law (a b : Int) (a0 : 0 ≤ a) (a1 : a ≤ 4294967295) (b0 : 0 ≤ b) (b1 : b ≤ 4294967295) (w : World) :
    Calls Try.prog 7 #[.int .u32 a, .int .u32 b] w fun x w' => x = .returned (.bool true) ∧ Ext w w' := by
  obtain ⟨s1, s2, s3, s4, s5, s6⟩ := bits_sum a b a0 a1 b0 b1
  refine calc_walk a b _ _ _ _ _ _ a0 a1 b0 b1 rfl ?_ rfl rfl ?_ ?_ ?_ rfl rfl rfl ?_ ?_ ?_ w
  · omega
  · omega
  · omega
  · have : min a b + max a b = a + b := by omega
    rw [this]
  · rw [s2]; exact Int.emod_eq_of_lt (by have := (bits32_bd .xor a b).1; omega) (by omega)
  · rw [s1]
  · omega

set_option maxHeartbeats 4000000 in
set_option maxRecDepth 100000 in
theorem dec_walk (a b L E G P Q B N : Int) (a0 : 0 ≤ a) (a1 : a ≤ 4294967295) (b0 : 0 ≤ b) (b1 : b ≤ 4294967295)
    (hL : apV 22 a b = L) (hE : apV 21 a b = E) (hG : apV 22 b a = G) (hP : apV 23 a b = P) (hQ : apV 23 b a = Q) (hB : apV 24 a b = B) (hN : apV 25 P Q = N) (hT : apV 23 B 0 = N) (hM : apV 26 B 9 = B)
    (l0 : 0 ≤ L ∧ L ≤ 1) (e0 : 0 ≤ E ∧ E ≤ 1) (g0 : 0 ≤ G ∧ G ≤ 1) (p0 : 0 ≤ P ∧ P ≤ 1) (q0 : 0 ≤ Q ∧ Q ≤ 1) (k0 : 0 ≤ B ∧ B ≤ 1) (hsum : L + E + G = 1) (hq : (E == 1) = (a == b)) (w : World) :
    Calls Try.prog 8 #[.int .u32 a, .int .u32 b] w fun x w' => x = .returned (.bool true) ∧ Ext w w' := by
  have c1 := of_any 22 a b L (by omega) (by omega) (by omega) hL a0 a1 b0 b1
  have c2 := of_any 21 a b E (by omega) (by omega) (by omega) hE a0 a1 b0 b1
  have c3 := of_any 22 b a G (by omega) (by omega) (by omega) hG b0 b1 a0 a1
  have c4 := of_any 23 a b P (by omega) (by omega) (by omega) hP a0 a1 b0 b1
  have c5 := of_any 23 b a Q (by omega) (by omega) (by omega) hQ b0 b1 a0 a1
  have c6 := of_any 24 a b B (by omega) (by omega) (by omega) hB a0 a1 b0 b1
  have c7 := of_any 25 P Q N (by omega) (by omega) (by omega) hN p0.1 (by omega) q0.1 (by omega)
  have c8 := of_any 23 B 0 N (by omega) (by omega) (by omega) hT k0.1 (by omega) (by omega) (by omega)
  have c9 := of_any 26 B 9 B (by omega) (by omega) (by omega) hM k0.1 (by omega) (by omega) (by omega)
  replace c1 := hidden c1
  replace c2 := hidden c2
  replace c3 := hidden c3
  replace c4 := hidden c4
  replace c5 := hidden c5
  replace c6 := hidden c6
  replace c7 := hidden c7
  replace c8 := hidden c8
  replace c9 := hidden c9
  obtain ⟨l0, l1⟩ := l0
  obtain ⟨e0, e1⟩ := e0
  obtain ⟨g0, g1⟩ := g0
  obtain ⟨k0, k1⟩ := k0
  clear hL hE hG hP hQ hB hN hT hM p0 q0
  go_enter Try.func8, Try.ntmps8
  go_wp2_with fail
  refine (c1.out _).mono ?_
  rintro e v1 ⟨rfl, g1⟩
  go_wp2_with fail
  refine (c2.out _).mono ?_
  rintro e v2 ⟨rfl, g2⟩
  go_wp2_with fail
  refine (c3.out _).mono ?_
  rintro e v3 ⟨rfl, g3⟩
  go_wp2_with fail
  refine (c4.out _).mono ?_
  rintro e v4 ⟨rfl, g4⟩
  go_wp2_with fail
  refine (c5.out _).mono ?_
  rintro e v5 ⟨rfl, g5⟩
  go_wp2_with fail
  refine (c6.out _).mono ?_
  rintro e v6 ⟨rfl, g6⟩
  go_wp2_with fail
  refine (c7.out _).mono ?_
  rintro e v7 ⟨rfl, g7⟩
  go_wp2_with fail
  refine (c8.out _).mono ?_
  rintro e v8 ⟨rfl, g8⟩
  go_wp2_with fail
  refine (c9.out _).mono ?_
  rintro e v9 ⟨rfl, g9⟩
  go_wp2_with fail
  refine (awake_any _).mono ?_
  rintro e v10 ⟨rfl, g10⟩
  go_wp2_with fail
  go_ret
  exact ⟨rfl, ((((((((g1.trans g2).trans g3).trans g4).trans g5).trans g6).trans g7).trans g8).trans g9).trans g10⟩
theorem InstructionDecides_law (a b : Int) (a0 : 0 ≤ a) (a1 : a ≤ 4294967295) (b0 : 0 ≤ b) (b1 : b ≤ 4294967295) (w : World) :
    Calls Try.prog 8 #[.int .u32 a, .int .u32 b] w fun x w' => x = .returned (.bool true) ∧ Ext w w' := by
  refine dec_walk a b _ _ _ _ _ _ (apV 25 (apV 23 a b) (apV 23 b a)) a0 a1 b0 b1 rfl rfl rfl rfl rfl rfl rfl ?_ ?_ ?_ ?_ ?_ ?_ ?_ ?_ ?_ ?_ w
  · simp only [apV_23, apV_24, apV_25, fl]
    by_cases h1 : a = 0 <;> by_cases h2 : b = 0 <;> simp [h1, h2]
  · simp only [apV_26, apV_24, fl]
    by_cases h1 : a = 0 <;> by_cases h2 : b = 0 <;> simp [h1, h2]
  · rw [apV_22]; exact fl_bd _
  · rw [apV_21]; exact fl_bd _
  · rw [apV_22]; exact fl_bd _
  · rw [apV_23]; exact fl_bd _
  · rw [apV_23]; exact fl_bd _
  · rw [apV_24]; exact fl_bd _
  · simp only [apV_21, apV_22, fl]
    rcases Int.lt_trichotomy a b with h | h | h
    · have h2 : ¬ b < a := by omega
      have h3 : (a == b) = false := by simp; omega
      simp [h, h2, h3]
    · subst h; simp
    · have h2 : ¬ a < b := by omega
      have h3 : (a == b) = false := by simp; omega
      simp [h, h2, h3]
  · rw [apV_21]
    unfold fl
    by_cases h : (a == b) = true
    · simp [h]
    · have h : (a == b) = false := by simpa using h
      simp [h]
end Go.Proofs.Ytchkbidekmaaiaa
