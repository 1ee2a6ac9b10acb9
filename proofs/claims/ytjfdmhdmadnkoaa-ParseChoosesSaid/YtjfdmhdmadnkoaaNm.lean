/- Layer 36: the statements ParseChooses, ParseOptimizes and ParseCertifies. -/
import Derived.Test.YtjfdmhdmadnkoaaNl
namespace Go.Proofs.Ytjfdmhdmadnkoaa
open Go.RowKit
set_option linter.unusedVariables false
attribute [local go_sem ↓] Go.wp_at_zero Go.wp_at_succ

set_option maxRecDepth 100000 in
set_option maxHeartbeats 4000000 in
theorem ParseChooses_law (v : Value) (D : List Int) (at_ : Int) (hb : Bytes D) (ha0 : -9223372036854775808 ≤ at_) (ha1 : at_ ≤ 9223372036854775807) (w : World) (h : Rd8 w v D) :
    Calls Try.prog 3 #[v, .int .i64 at_] w fun x w' => x = .returned (.bool true) ∧ Ext w w' := by
  have haw := hidden pawake_any
  obtain ⟨a, cap, rfl, q1, q2, q3⟩ := Rd.shape h
  by_cases k : 200 < D.length ∧ D.length ≤ 65536
  · obtain ⟨k1, k2⟩ := k
    obtain ⟨n, hn⟩ : ∃ n, D.length = n := ⟨_, rfl⟩
    rw [hn] at k1 k2 q1 ⊢
    clear h hb hn
    go_enter Try.func3, Try.ntmps3
    go_wp2_with fail
    refine (haw.out _).mono ?_
    rintro e1 w1 ⟨rfl, g1⟩
    go_wp2_with fail
    go_ret
    exact ⟨rfl, g1⟩
  · have c1 := fun W hW => pchoices_any (.slice a D.length cap) D at_ hb (by omega) W hW
    have c2 := fun W hW => rchoices_any (.slice a D.length cap) D at_ hb ha0 ha1 (by omega) W hW
    have hll : (chE D at_).2.length ≤ 900000 := by
      unfold chE
      split
      · simp
      · split
        · simp
        · have := chA_bd D at_.toNat (min 4096 at_.toNat)
          simp only
          unfold chF
          omega
    obtain ⟨⟨e2, l⟩, hE2⟩ : ∃ r, chE D at_ = r := ⟨_, rfl⟩
    rw [hE2] at c1 c2 hll
    simp only at hll
    replace c1 := hidden c1
    replace c2 := hidden c2
    replace hll := hidden hll
    obtain ⟨n, hn⟩ : ∃ n, D.length = n := ⟨_, rfl⟩
    have H : Hid (Rd8 w (.slice a n cap) D) := hidden (by rw [← hn]; exact h)
    rw [hn] at k q1 c1 c2 ⊢
    have hsplit : n ≤ 200 ∨ (200 < n ∧ 65536 < n) := by omega
    clear h hb hn k hE2
    rcases hsplit with k1 | ⟨k1, k2⟩
    all_goals
      go_enter Try.func3, Try.ntmps3
      go_wp2_with fail
      refine (c1.out _ H.out).mono ?_
      rintro x1 w1 ⟨v1, rfl, O1, g1⟩
      obtain ⟨a1, d1, rfl, -, -, -⟩ := Rd.shape O1.toks
      have R1 : Hid (Rd8 w1 (.slice a n cap) D) := hidden (Rd.ext H.out g1)
      have T1 : Hid (Toks w1 (.slice a1 l.length d1) l) := hidden O1.toks
      have X1 := hidden g1
      clear O1 g1
      go_wp2_with fail
      refine (c2.out _ R1.out).mono ?_
      rintro x2 w2 ⟨v2, rfl, O2, g2⟩
      obtain ⟨a2, d2, rfl, -, -, -⟩ := Rd.shape O2.toks
      have T2 : Hid (Toks w2 (.slice a1 l.length d1) l) := hidden (Rd.ext T1.out g2)
      have U2 : Hid (Toks w2 (.slice a2 l.length d2) l) := hidden O2.toks
      have X2 := hidden (X1.out.trans g2)
      clear O2 g2 T1 X1
      go_wp2_with fail
      refine (haw.out _).mono ?_
      rintro x3 w3 ⟨rfl, g3⟩
      have T3 := hidden (Rd.ext T2.out g3)
      have U3 := hidden (Rd.ext U2.out g3)
      have X3 := hidden (X2.out.trans g3)
      clear g3 T2 U2 X2
      go_wp2_with fail
      refine (sameT_any _ _ l l hll.out hll.out _ T3.out U3.out).mono ?_
      rw [decide_eq_true rfl]
      rintro x4 w4 ⟨rfl, g4⟩
      have X4 := hidden (X3.out.trans g4)
      clear g4
      go_wp2_with fail
      go_ret
      exact ⟨rfl, X4.out⟩

theorem opF_len {D : List Int} (hb : Bytes D) (hl : D.length ≤ 65536) : (opF D).length ≤ D.length := by
  have := (fac_ck hb hl (opt D D.length 0) 0 (opt_fac hb D.length 0 (Nat.zero_le _) (by omega))).2.2.1
  exact this
theorem optE_len {D : List Int} (hb : Bytes D) : (optE D).2.1.length ≤ 900000 := by
  unfold optE
  split
  · simp
  · have := opF_len hb (by omega)
    simp only
    omega

set_option maxRecDepth 100000 in
set_option maxHeartbeats 4000000 in
theorem ParseOptimizes_law (v : Value) (D : List Int) (hb : Bytes D) (w : World) (h : Rd8 w v D) :
    Calls Try.prog 4 #[v] w fun x w' => x = .returned (.bool true) ∧ Ext w w' := by
  have haw := hidden pawake_any
  obtain ⟨a, cap, rfl, q1, q2, q3⟩ := Rd.shape h
  by_cases k : 120 < D.length ∧ D.length ≤ 65536
  · obtain ⟨k1, k2⟩ := k
    obtain ⟨n, hn⟩ : ∃ n, D.length = n := ⟨_, rfl⟩
    rw [hn] at k1 k2 q1 ⊢
    clear h hb hn
    go_enter Try.func4, Try.ntmps4
    go_wp2_with fail
    refine (haw.out _).mono ?_
    rintro e1 w1 ⟨rfl, g1⟩
    go_wp2_with fail
    go_ret
    exact ⟨rfl, g1⟩
  · have c1 := fun W hW => ppot_any (.slice a D.length cap) D hb (by omega) W hW
    have c2 := fun W hW => rpot_any (.slice a D.length cap) D hb (by omega) W hW
    have c3 := fun W hW => popt_any (.slice a D.length cap) D hb (by omega) W hW
    have c4 := fun W hW => ropt_any (.slice a D.length cap) D hb (by omega) W hW
    have hll := optE_len hb
    obtain ⟨⟨e1, P⟩, hE1⟩ : ∃ r, potE D = r := ⟨_, rfl⟩
    obtain ⟨⟨e2, l, z⟩, hE2⟩ : ∃ r, optE D = r := ⟨_, rfl⟩
    rw [hE1] at c1 c2
    rw [hE2] at c3 c4 hll
    simp only at hll
    replace c1 := hidden c1
    replace c2 := hidden c2
    replace c3 := hidden c3
    replace c4 := hidden c4
    replace hll := hidden hll
    obtain ⟨n, hn⟩ : ∃ n, D.length = n := ⟨_, rfl⟩
    have H : Hid (Rd8 w (.slice a n cap) D) := hidden (by rw [← hn]; exact h)
    rw [hn] at k q1 c1 c2 c3 c4 ⊢
    have hsplit : n ≤ 120 ∨ (120 < n ∧ 65536 < n) := by omega
    clear h hb hn k hE2 hE1
    rcases hsplit with k1 | ⟨k1, k2⟩
    all_goals
      go_enter Try.func4, Try.ntmps4
      go_wp2_with fail
      refine (c1.out _ H.out).mono ?_
      rintro x1 w1 ⟨v1, rfl, O1, g1⟩
      obtain ⟨a1, d1, rfl, -, -, -⟩ := Rd.shape O1.rd
      have R1 : Hid (Rd8 w1 (.slice a n cap) D) := hidden (Rd.ext H.out g1)
      have P1 : Hid (RdI w1 (.slice a1 P.length d1) P) := hidden O1.rd
      have X1 := hidden g1
      clear O1 g1
      go_wp2_with fail
      refine (c2.out _ R1.out).mono ?_
      rintro x2 w2 ⟨v2, rfl, O2, g2⟩
      obtain ⟨a2, d2, rfl, -, -, -⟩ := Rd.shape O2.rd
      have R2 : Hid (Rd8 w2 (.slice a n cap) D) := hidden (Rd.ext R1.out g2)
      have P2 : Hid (RdI w2 (.slice a1 P.length d1) P) := hidden (RdI.ext P1.out g2)
      have Q2 : Hid (RdI w2 (.slice a2 P.length d2) P) := hidden O2.rd
      have X2 := hidden (X1.out.trans g2)
      clear O2 g2 P1 X1 R1
      go_wp2_with fail
      refine (c3.out _ R2.out).mono ?_
      rintro x3 w3 ⟨v3, rfl, O3, g3⟩
      obtain ⟨a3, d3, rfl, -, -, -⟩ := Rd.shape O3.toks
      have R3 : Hid (Rd8 w3 (.slice a n cap) D) := hidden (Rd.ext R2.out g3)
      have P3 : Hid (RdI w3 (.slice a1 P.length d1) P) := hidden (RdI.ext P2.out g3)
      have Q3 : Hid (RdI w3 (.slice a2 P.length d2) P) := hidden (RdI.ext Q2.out g3)
      have T3 : Hid (Toks w3 (.slice a3 l.length d3) l) := hidden O3.toks
      have X3 := hidden (X2.out.trans g3)
      clear O3 g3 P2 Q2 X2 R2
      go_wp2_with fail
      refine (c4.out _ R3.out).mono ?_
      rintro x4 w4 ⟨v4, rfl, O4, g4⟩
      obtain ⟨a4, d4, rfl, -, -, -⟩ := Rd.shape O4.toks
      have P4 : Hid (RdI w4 (.slice a1 P.length d1) P) := hidden (RdI.ext P3.out g4)
      have Q4 : Hid (RdI w4 (.slice a2 P.length d2) P) := hidden (RdI.ext Q3.out g4)
      have T4 : Hid (Toks w4 (.slice a3 l.length d3) l) := hidden (Rd.ext T3.out g4)
      have U4 : Hid (Toks w4 (.slice a4 l.length d4) l) := hidden O4.toks
      have X4 := hidden (X3.out.trans g4)
      clear O4 g4 P3 Q3 T3 X3 R3
      go_wp2_with fail
      refine (haw.out _).mono ?_
      rintro x5 w5 ⟨rfl, g5⟩
      have P5 : Hid (RdI w5 (.slice a1 P.length d1) P) := hidden (RdI.ext P4.out g5)
      have Q5 : Hid (RdI w5 (.slice a2 P.length d2) P) := hidden (RdI.ext Q4.out g5)
      have T5 : Hid (Toks w5 (.slice a3 l.length d3) l) := hidden (Rd.ext T4.out g5)
      have U5 : Hid (Toks w5 (.slice a4 l.length d4) l) := hidden (Rd.ext U4.out g5)
      have X5 := hidden (X4.out.trans g5)
      clear g5 P4 Q4 T4 U4 X4
      go_wp2_with fail
      refine (sameI_any _ _ P P _ P5.out Q5.out).mono ?_
      rw [decide_eq_true rfl]
      rintro x6 w6 ⟨rfl, g6⟩
      have T6 : Hid (Toks w6 (.slice a3 l.length d3) l) := hidden (Rd.ext T5.out g6)
      have U6 : Hid (Toks w6 (.slice a4 l.length d4) l) := hidden (Rd.ext U5.out g6)
      have X6 := hidden (X5.out.trans g6)
      clear g6 P5 Q5 T5 U5 X5
      go_wp2_with fail
      refine (sameT_any _ _ l l hll.out hll.out _ T6.out U6.out).mono ?_
      rw [decide_eq_true rfl]
      rintro x7 w7 ⟨rfl, g7⟩
      have X7 := hidden (X6.out.trans g7)
      clear g7
      go_wp2_with fail
      go_ret
      exact ⟨rfl, X7.out⟩

set_option maxRecDepth 100000 in
set_option maxHeartbeats 4000000 in
theorem ParseCertifies_law (v : Value) (D : List Int) (vl : Value) (l : List (Int × Int × Int)) (vp : Value) (P : List Int) (hb : Bytes D) (hok : OkTs l) (hP : ∀ z ∈ P, (Lit.int .i64 z).wf = true) (w : World) (h : Rd8 w v D) (ht : Toks w vl l) (hp : RdI w vp P) :
    Calls Try.prog 5 #[v, vl, vp] w fun x w' => x = .returned (.bool true) ∧ Ext w w' := by
  have haw := hidden pawake_any
  have k1 := fun W hW => pcost_any vl l hok W hW
  have k2 := fun W hW => rcost_any vl l hok W hW
  have k3 := fun (hD : D.length ≤ 9223372036854775807) (hl : P.length ≤ 1000000) W hW hT hQ => pcert_any v vl vp D P l hb hok hD hl W hW hT hQ
  have k4 := fun (hD : D.length ≤ 9223372036854775807) (hl : P.length ≤ 1000000) W hW hT hQ => rcert_any v vl vp D P l hb hok hD hl W hW hT hQ
  obtain ⟨a, cap, rfl, q1, q2, q3⟩ := Rd.shape h
  obtain ⟨b, dap, rfl, p1, p2, p3⟩ := Rd.shape ht
  obtain ⟨c, eap, rfl, o1, o2, o3⟩ := Rd.shape hp
  obtain ⟨n, hn⟩ : ∃ n, D.length = n := ⟨_, rfl⟩
  obtain ⟨m, hm⟩ : ∃ m, l.length = m := ⟨_, rfl⟩
  obtain ⟨r, hr⟩ : ∃ r, P.length = r := ⟨_, rfl⟩
  have H : Hid (Rd8 w (.slice a n cap) D) := hidden (by rw [← hn]; exact h)
  have HT : Hid (Toks w (.slice b m dap) l) := hidden (by rw [← hm]; exact ht)
  have HP : Hid (RdI w (.slice c r eap) P) := hidden (by rw [← hr]; exact hp)
  obtain ⟨⟨e1, z1⟩, hE1⟩ : ∃ r, cosE l = r := ⟨_, rfl⟩
  obtain ⟨C, hC⟩ : ∃ r, cerF D l P = r := ⟨_, rfl⟩
  rw [hE1] at k1 k2
  rw [hC] at k3 k4
  rw [hn, hm, hr] at k3 k4
  rw [hm] at k1 k2
  rw [hn] at q1 ⊢
  rw [hm] at p1 ⊢
  rw [hr] at o1 ⊢
  clear h ht hp hb hok hP hn hm hr hE1 hC
  have hsplit : 120 < n ∨ (n ≤ 120 ∧ 200 < m) ∨ (n ≤ 120 ∧ m ≤ 200 ∧ 200 < r) ∨ (n ≤ 120 ∧ m ≤ 200 ∧ r ≤ 200) := by omega
  rcases hsplit with g | ⟨g0, g1⟩ | ⟨g0, g1, g2⟩ | ⟨g0, g1, g2⟩
  · clear k1 k2 k3 k4
    go_enter Try.func5, Try.ntmps5
    go_wp2_with fail
    refine (haw.out _).mono ?_
    rintro e1 w1 ⟨rfl, g1⟩
    go_wp2_with fail
    go_ret
    exact ⟨rfl, g1⟩
  · clear k1 k2 k3 k4
    go_enter Try.func5, Try.ntmps5
    go_wp2_with fail
    refine (haw.out _).mono ?_
    rintro e1 w1 ⟨rfl, g1⟩
    go_wp2_with fail
    go_ret
    exact ⟨rfl, g1⟩
  · clear k1 k2 k3 k4
    go_enter Try.func5, Try.ntmps5
    go_wp2_with fail
    refine (haw.out _).mono ?_
    rintro e1 w1 ⟨rfl, g1⟩
    go_wp2_with fail
    go_ret
    exact ⟨rfl, g1⟩
  · replace k3 := k3 (by omega) (by omega)
    replace k4 := k4 (by omega) (by omega)
    replace k1 := hidden k1
    replace k2 := hidden k2
    replace k3 := hidden k3
    replace k4 := hidden k4
    go_enter Try.func5, Try.ntmps5
    go_wp2_with fail
    refine (k1.out _ HT.out).mono ?_
    rintro x1 w1 ⟨rfl, f1⟩
    have HT1 : Hid (Toks w1 (.slice b m dap) l) := hidden (Rd.ext HT.out f1)
    replace f1 := hidden f1
    go_wp2_with fail
    refine (k2.out _ HT1.out).mono ?_
    rintro x2 w2 ⟨rfl, f2⟩
    have F2 := hidden (f1.out.trans f2)
    clear f2
    go_wp2_with fail
    refine (haw.out _).mono ?_
    rintro x3 w3 ⟨rfl, f3⟩
    have F3 := hidden (F2.out.trans f3)
    clear f3
    go_wp2_with fail
    refine (k3.out _ (Rd.ext H.out F3.out) (Rd.ext HT.out F3.out) (RdI.ext HP.out F3.out)).mono ?_
    rintro x4 w4 ⟨rfl, f4⟩
    have F4 := hidden (F3.out.trans f4)
    clear f4
    go_wp2_with fail
    refine (k4.out _ (Rd.ext H.out F4.out) (Rd.ext HT.out F4.out) (RdI.ext HP.out F4.out)).mono ?_
    rintro x5 w5 ⟨rfl, f5⟩
    have F5 := hidden (F4.out.trans f5)
    clear f5
    go_wp2_with fail
    go_ret
    exact ⟨rfl, F5.out⟩
end Go.Proofs.Ytjfdmhdmadnkoaa
