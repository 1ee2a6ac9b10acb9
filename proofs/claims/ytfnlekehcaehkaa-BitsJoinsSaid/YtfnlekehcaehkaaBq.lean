/- The law BitsPrefixes: the plain part and the walk. -/
import Derived.Test.YtfnlekehcaehkaaBo
import Derived.Test.YtfnlekehcaehkaaBn
namespace Go.Proofs.Ytfnlekehcaehkaa
open Go.RowKit
set_option linter.unusedVariables false
attribute [local go_sem ↓] Go.wp_at_zero Go.wp_at_succ

theorem gb_psh0 (X : List Int) (hX : Bits01 X) (i : Nat) : gb (pshs [] 0 X) i = X.getD i 0 := by
  rw [gb_pshs WF.nil hX]
  simp
theorem gam_prefix (n m : Int) (hn0 : 1 ≤ n) (hn1 : n ≤ 2147483647) (hm0 : 1 ≤ m) (hm1 : m ≤ 2147483647) (hle : (gam n).length ≤ (gam m).length)
    (heq : ∀ j, j < (gam n).length → (gam m).getD j 0 = (gam n).getD j 0) : n = m := by
  obtain ⟨a, ha, ha2⟩ := len_ex n hn0 hn1
  obtain ⟨b, hb, hb2⟩ := len_ex m hm0 hm1
  have la := gam_len n a ha
  have lb := gam_len m b hb
  have r1 := rg_reads (gam m) (gam_01 m) (by omega) 0 n hn0 hn1 a ha ha2 (fun j hj => by rw [Nat.zero_add]; exact heq j (by omega)) (by omega)
  have r2 := rg_reads (gam m) (gam_01 m) (by omega) 0 m hm0 hm1 b hb hb2 (fun j hj => by rw [Nat.zero_add]) (by omega)
  rw [r1] at r2
  simp only [Prod.mk.injEq] at r2
  exact r2.2.1
theorem pshs_inj (X Y : List Int) (hX : Bits01 X) (hY : Bits01 Y) (h : pshs [] 0 X = pshs [] 0 Y) (i : Nat) : X.getD i 0 = Y.getD i 0 := by
  rw [← gb_psh0 X hX, ← gb_psh0 Y hY, h]
/-- What Gamma leaves of a small number, from nothing. -/
theorem gamF_nil (n : Int) (h0 : 1 ≤ n) (h1 : n ≤ 2147483647) : gamF [] 0 n = (0, pshs [] 0 (gam n), (gam n).length) := by
  obtain ⟨a, ha, ha2⟩ := len_ex n h0 h1
  unfold gamF
  rw [if_neg (by decide), if_neg (by omega), if_neg (by omega), gam_len n a ha, ha]
  simp
  omega
theorem pre_same (n m : Int) (hn0 : 1 ≤ n) (hn1 : n ≤ 2147483647) (hm0 : 1 ≤ m) (hm1 : m ≤ 2147483647) (k : Nat) (hk : k = min (gam n).length (gam m).length)
    (h : pshs [] 0 (cut (pshs [] 0 (gam n)) 0 k) = pshs [] 0 (cut (pshs [] 0 (gam m)) 0 k)) : n = m := by
  have key : ∀ j, j < k → (gam n).getD j 0 = (gam m).getD j 0 := by
    intro j hj
    have e := pshs_inj _ _ (cut_01 _ 0 k) (cut_01 _ 0 k) h j
    rw [cut_get _ 0 k j hj, cut_get _ 0 k j hj, gb_psh0 _ (gam_01 n), gb_psh0 _ (gam_01 m), Nat.zero_add] at e
    exact e
  rcases Nat.le_total (gam n).length (gam m).length with hl | hl
  · exact gam_prefix n m hn0 hn1 hm0 hm1 hl (fun j hj => (key j (by omega)).symm)
  · exact (gam_prefix m n hm0 hm1 hn0 hn1 hl (fun j hj => key j (by omega))).symm
theorem gam_wf (n : Int) : WF (pshs [] 0 (gam n)) (gam n).length := by
  have := WF.pshs WF.nil (gam_01 n)
  rwa [Nat.zero_add] at this

set_option maxHeartbeats 1000000 in
theorem BitsPrefixes_law (n m : Int) (hn0 : 0 ≤ n) (hn1 : n ≤ 65535) (hm0 : 0 ≤ m) (hm1 : m ≤ 65535) (w : World) :
    Calls Try.prog 5 #[.int .u16 n, .int .u16 m] w fun x w' => x = .returned (.bool true) ∧ Ext w w' := by
  have g1 := gamF_nil (n + 1) (by omega) (by omega)
  have g2 := gamF_nil (m + 1) (by omega) (by omega)
  have u1 := gam_wf (n + 1)
  have u2 := gam_wf (m + 1)
  have v1 : (gam (n + 1)).length ≤ 100 := by
    obtain ⟨a, ha, ha2⟩ := len_ex (n + 1) (by omega) (by omega)
    have := gam_len (n + 1) a ha
    omega
  have v2 : (gam (m + 1)).length ≤ 100 := by
    obtain ⟨a, ha, ha2⟩ := len_ex (m + 1) (by omega) (by omega)
    have := gam_len (m + 1) a ha
    omega
  obtain ⟨k, hk⟩ : ∃ k, k = min (gam (n + 1)).length (gam (m + 1)).length := ⟨_, rfl⟩
  have hsame := pre_same (n + 1) (m + 1) (by omega) (by omega) (by omega) (by omega) k hk
  obtain ⟨X, hX⟩ : ∃ X, pshs [] 0 (gam (n + 1)) = X := ⟨_, rfl⟩
  obtain ⟨Y, hY⟩ : ∃ Y, pshs [] 0 (gam (m + 1)) = Y := ⟨_, rfl⟩
  have hXY : n = m → X = Y := by rintro rfl; rw [← hX, ← hY]
  obtain ⟨c, hc⟩ : ∃ c, (gam (n + 1)).length = c := ⟨_, rfl⟩
  obtain ⟨d, hd⟩ : ∃ d, (gam (m + 1)).length = d := ⟨_, rfl⟩
  rw [hX, hY] at hsame
  rw [hX, hc] at g1 u1
  rw [hY, hd] at g2 u2
  rw [hc, hd] at hk
  rw [hc] at v1
  rw [hd] at v2
  have hk1 : k ≤ c := by omega
  have hk2 : k ≤ d := by omega
  have hkc : min (c : Int) (d : Int) = (k : Int) := by rw [hk]; omega
  have hlX : X.length ≤ 100 := by have := u1.len; omega
  have hlY : Y.length ≤ 100 := by have := u2.len; omega
  obtain ⟨P, hP⟩ : ∃ P, pshs [] 0 (cut X 0 k) = P := ⟨_, rfl⟩
  obtain ⟨Q, hQ⟩ : ∃ Q, pshs [] 0 (cut Y 0 k) = Q := ⟨_, rfl⟩
  have hPQ : decide (P = Q) = (n == m) := by
    rw [hP, hQ] at hsame
    by_cases hnm : n = m
    · have := hXY hnm
      subst this
      have hPQ : P = Q := by rw [← hP, ← hQ]
      simp [hnm, hPQ]
    · have hPQ : ¬ P = Q := fun e => hnm (by have := hsame e; omega)
      simp [hnm, hPQ]
  have hPQ := hidden hPQ
  have g1 := hidden g1
  have g2 := hidden g2
  have hP := hidden hP
  have hQ := hidden hQ
  clear hsame hXY hX hY hk hc hd
  go_enter Try.func5, Try.ntmps5
  go_wp2_with fail
  refine (gamma_any _ [] 0 (n + 1) by_nil (by simp) (by omega) (by omega) _ (Rd8.nil _)).mono ?_
  rw [g1.out]
  rintro e w1 ⟨a1, k1, rfl, R1, F1, E1⟩
  have R1 : Rd8 w1 (.slice a1 X.length k1) X := R1
  have B1 := Blk.new w1 [.slice a1 X.length k1, .int .i64 (c : Int)] 24
  have b10 := B1.cell 0 _ rfl
  have b11 := B1.cell 1 _ rfl
  go_wp2_with fail
  refine (gamma_any _ [] 0 (m + 1) by_nil (by simp) (by omega) (by omega) _ (Rd8.nil _)).mono ?_
  rw [g2.out]
  rintro e w2 ⟨a2, k2, rfl, R2, F2, E2⟩
  have R2 : Rd8 w2 (.slice a2 Y.length k2) Y := R2
  have R1' := Rd.alloc (Rd.ext (Rd.alloc R1 (.cells #[.slice a1 X.length k1, .int .i64 (c : Int)] 24)) E2) (.cells #[.slice a2 Y.length k2, .int .i64 (d : Int)] 24)
  have B2 := Blk.new w2 [.slice a2 Y.length k2, .int .i64 (d : Int)] 24
  have B1' := (B1.ext E2).alloc (.cells #[.slice a2 Y.length k2, .int .i64 (d : Int)] 24)
  have R2' := Rd.alloc R2 (.cells #[.slice a2 Y.length k2, .int .i64 (d : Int)] 24)
  have c10 := B1'.cell 0 _ rfl
  have c11 := B1'.cell 1 _ rfl
  have c20 := B2.cell 0 _ rfl
  have c21 := B2.cell 1 _ rfl
  have c12 := (B1.ext E2).cell 0 _ rfl
  have c13 := (B1.ext E2).cell 1 _ rfl
  have n1 := World.new_ne w2 _ c12
  go_wp2_with fail
  have S1 := slice_good _ X c 0 k u1.bytes u1 (by omega) (by omega) (by omega) _ R1'
  rw [Nat.sub_zero, hP.out] at S1
  refine S1.mono ?_
  clear S1
  rintro e w3 ⟨a3, k3, rfl, R3, F3, E3⟩
  have R3 : Rd8 w3 (.slice a3 P.length k3) P := R3
  have B2' := (B2.ext E3).alloc (.cells #[.slice a3 P.length k3, .int .i64 (k : Int)] 24)
  have B2'' := (B2.ext E3)
  have d20 := B2'.cell 0 _ rfl
  have d21 := B2'.cell 1 _ rfl
  have d22 := B2''.cell 0 _ rfl
  have d23 := B2''.cell 1 _ rfl
  have n2 := World.new_ne w3 _ d22
  have R2'' := Rd.alloc (Rd.ext R2' E3) (.cells #[.slice a3 P.length k3, .int .i64 (k : Int)] 24)
  have B3 := Blk.new w3 [.slice a3 P.length k3, .int .i64 (k : Int)] 24
  have R3' := Rd.alloc R3 (.cells #[.slice a3 P.length k3, .int .i64 (k : Int)] 24)
  go_wp2_with fail
  have S2 := slice_good _ Y d 0 k u2.bytes u2 (by omega) (by omega) (by omega) _ R2''
  rw [Nat.sub_zero, hQ.out] at S2
  refine S2.mono ?_
  clear S2
  rintro e w4 ⟨a4, k4, rfl, R4, F4, E4⟩
  have R4 : Rd8 w4 (.slice a4 Q.length k4) Q := R4
  have B3' := (B3.ext E4).alloc (.cells #[.slice a4 Q.length k4, .int .i64 (k : Int)] 24)
  have B4 := Blk.new w4 [.slice a4 Q.length k4, .int .i64 (k : Int)] 24
  have e30 := B3'.cell 0 _ rfl
  have e31 := B3'.cell 1 _ rfl
  have e32 := (B3.ext E4).cell 0 _ rfl
  have e40 := B4.cell 0 _ rfl
  have e41 := B4.cell 1 _ rfl
  have n3 := World.new_ne w4 _ e32
  have R3'' := Rd.alloc (Rd.ext R3' E4) (.cells #[.slice a4 Q.length k4, .int .i64 (k : Int)] 24)
  have R4' := Rd.alloc R4 (.cells #[.slice a4 Q.length k4, .int .i64 (k : Int)] 24)
  go_wp2_with fail
  refine (rsame_any _ _ _ _ P Q _ R3'' R4').mono ?_
  rintro e w5 ⟨rfl, E5⟩
  have hv : (decide ((k : Int) = (k : Int)) && decide (P = Q)) = (n == m) := by rw [hPQ.out]; simp
  rw [hv]
  have hEE : Ext w w5 := ((((E1.trans E2.past).trans E3.past).trans E4.past).trans E5.past)
  clear hv
  go_wp2_with fail
  refine (awake_any _).mono ?_
  rintro e w6 ⟨rfl, E6⟩
  go_wp2_with fail
  go_ret
  exact ⟨rfl, hEE.trans E6⟩
end Go.Proofs.Ytfnlekehcaehkaa
