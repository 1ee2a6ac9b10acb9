/- The reference's Gamma, the good case and the whole. -/
import Derived.Test.YtlnlffmlficjnaaBy
namespace Go.Proofs.Ytlnlffmlficjnaa
open Go.RowKit
set_option linter.unusedVariables false
attribute [local go_sem ↓] Go.wp_at_zero Go.wp_at_succ


set_option maxRecDepth 100000 in
set_option maxHeartbeats 1000000 in
theorem rgam_good (v : Value) (D : List Int) (c n : Int) (hb : Bytes D) (hl : D.length ≤ 50000) (hc0 : -9223372036854775808 ≤ c) (hc1 : c ≤ 9223372036854775807) (hn0 : -9223372036854775808 ≤ n) (hn1 : n ≤ 9223372036854775807) (w : World) (h : Rd8 w v D) (hk : chkb D c = 0) (hn : 1 ≤ n ∧ n ≤ 2147483647) (hcn : c + 2 * (Lib.bitLen n.toNat : Int) - 1 ≤ 524288) :
    Calls Try.prog 45 #[.agg #[v, .int .i64 c], .int .i64 n] w fun x w' => BitsPost w (gamF D c n) x w' := by
  have hE : gamF D c n = (0, pshs D c.toNat (gam n), c.toNat + (2 * Lib.bitLen n.toNat - 1)) := by unfold gamF; rw [if_neg (by simp [hk]), if_neg (by omega), if_neg (by omega)]
  rw [hE]
  obtain ⟨hk0, hk1, hwf⟩ := chkb_wf hb hk
  have Hk := hidden hk
  clear hk hE
  obtain ⟨m, hL, hm⟩ := len_ex n hn.1 hn.2
  obtain ⟨c1, c2⟩ := bitLen_int n hn.1 hn.2 m hL
  have Hdiv : Hid (∀ k : Nat, 0 < n / 2 ^ (k + 1) ↔ k < m) := by
    refine hidden (fun k => ?_)
    have hp := pow2_pos (k + 1)
    constructor
    · intro hh
      rcases Nat.lt_or_ge k m with hkm | hkm
      · exact hkm
      · exfalso
        have h2 : (2 : Int) ^ (m + 1) ≤ 2 ^ (k + 1) := by
          have := Nat.pow_le_pow_right (show 0 < 2 by decide) (show m + 1 ≤ k + 1 by omega)
          have h3 : ((2 ^ (m + 1) : Nat) : Int) ≤ ((2 ^ (k + 1) : Nat) : Int) := Int.ofNat_le.mpr this
          simpa using h3
        rw [Int.ediv_eq_zero_of_lt (by omega) (by omega)] at hh
        exact absurd hh (by decide)
    · intro hkm
      have h2 : (2 : Int) ^ (k + 1) ≤ 2 ^ m := by
        have := Nat.pow_le_pow_right (show 0 < 2 by decide) (show k + 1 ≤ m by omega)
        have h3 : ((2 ^ (k + 1) : Nat) : Int) ≤ ((2 ^ m : Nat) : Int) := Int.ofNat_le.mpr this
        simpa using h3
      exact Int.le_ediv_of_mul_le hp (by omega)
  obtain ⟨hn2, hn3⟩ := hn
  have hn4 : ¬ n < 1 := by omega
  have hn5 : ¬ 2147483648 ≤ n := by omega
  have hgm : gam n = low 0 m ++ low n (m + 1) := by unfold gam; rw [hL]; rfl
  rw [hL] at hcn ⊢
  obtain ⟨cn, hcn0⟩ : ∃ cn, c.toNat = cn := ⟨_, rfl⟩
  have hci : c = (cn : Int) := by omega
  rw [hcn0] at hwf ⊢
  have hcw : cn ≤ 400000 := by have := hwf.len; omega
  have hw2 : WF (pshs D cn (low 0 m)) (cn + m) := by
    have := hwf.pshs (low_01 0 m)
    rwa [low_len] at this
  have hA1 : appF D c 0 (m : Int) = (0, pshs D cn (low 0 m), cn + m) := by
    unfold appF
    rw [if_neg (by rw [hci, wf_chkb hwf (by omega)]; decide), if_neg (by omega), if_neg (by simp only [Int.toNat_natCast]; have := pow2_pos m; omega), if_neg (by omega), hcn0]
    simp only [Int.toNat_natCast]
  have hA2 : appF (pshs D cn (low 0 m)) ((cn + m : Nat) : Int) n ((m : Int) + 1) = (0, pshs D cn (gam n), cn + (2 * (m + 1) - 1)) := by
    unfold appF
    have e2 : ((m : Int) + 1) = ((m + 1 : Nat) : Int) := by omega
    rw [e2, if_neg (by rw [wf_chkb hw2 (by omega)]; decide), if_neg (by omega), if_neg (by simp only [Int.toNat_natCast]; omega), if_neg (by omega)]
    simp only [Int.toNat_natCast]
    rw [hgm, pshs_app, low_len]
    refine Prod.ext rfl (Prod.ext rfl ?_)
    show cn + m + (m + 1) = cn + (2 * (m + 1) - 1)
    omega
  have hb2 := hw2.bytes
  have hl2 : (pshs D cn (low 0 m)).length ≤ 60000 := by have := hw2.len; omega
  obtain ⟨E1, hE1⟩ : ∃ E, pshs D cn (low 0 m) = E := ⟨_, rfl⟩
  obtain ⟨E2, hE2⟩ : ∃ E, pshs D cn (gam n) = E := ⟨_, rfl⟩
  obtain ⟨c9, hc9⟩ : ∃ x, cn + (2 * (m + 1) - 1) = x := ⟨_, rfl⟩
  obtain ⟨d, hd⟩ : ∃ x, cn + m = x := ⟨_, rfl⟩
  rw [hE1] at hA1 hA2 hb2 hl2
  rw [hE2, hc9] at hA2 ⊢
  rw [hd] at hA1 hA2
  have hdb : d ≤ 400100 := by omega
  have hcb : c ≤ 400000 := by omega
  have HA1 := hidden hA1
  have HA2 := hidden hA2
  have hcn' : ¬ (524288 : Int) < c + 2 * (m : Int) + 1 := by omega
  clear hcn c1 c2 hgm hw2 hA1 hA2 hL hc9 hE1 hE2 hd hci hcn0 hwf hcw
  obtain ⟨a, cap, rfl, q1, q2, q3⟩ := Rd.shape h
  have W0B : Blk ((w.alloc (.cells #[.slice a D.length cap, .int .i64 c] 57)).alloc (.cells #[.slice none 0 0, .int .i64 0] 57)) w.heap.size 57 [.slice a D.length cap, .int .i64 c] := (Blk.new w [.slice a D.length cap, .int .i64 c] _).alloc _
  have W0Z : Blk ((w.alloc (.cells #[.slice a D.length cap, .int .i64 c] 57)).alloc (.cells #[.slice none 0 0, .int .i64 0] 57)) (w.heap.size + 1) 57 [.slice none 0 0, .int .i64 0] := by
    have := Blk.new (w.alloc (.cells #[.slice a D.length cap, .int .i64 c] 57)) [.slice none 0 0, .int .i64 0] 57
    rw [World.size_alloc] at this
    exact this
  have W0R : Rd8 ((w.alloc (.cells #[.slice a D.length cap, .int .i64 c] 57)).alloc (.cells #[.slice none 0 0, .int .i64 0] 57)) (.slice a D.length cap) D := Rd.alloc (Rd.alloc h _) _
  have W0E : Ext w ((w.alloc (.cells #[.slice a D.length cap, .int .i64 c] 57)).alloc (.cells #[.slice none 0 0, .int .i64 0] 57)) := ((Ext.refl w).alloc _).alloc _
  have p0 := W0B.cell 0 _ rfl
  have p1 := W0B.cell 1 _ rfl
  go_enter Try.func45, Try.ntmps45
  go_wp2_with fail
  refine (rcheck_any _ D c hb (by omega) hc0 hc1 _ W0R).mono ?_
  rw [Hk.out]
  rintro e w1 ⟨rfl, g1⟩
  have W1B := W0B.ext g1
  have W1Z := W0Z.ext g1
  have pb0 := W1B.cell 0 _ rfl
  have pb1 := W1B.cell 1 _ rfl
  have pz0 := W1Z.cell 0 _ rfl
  have pz1 := W1Z.cell 1 _ rfl
  have py0 := W1Z.frozen 0
  have py1 := W1Z.frozen 1
  go_wp2_with fail
  go_loop [7] (fun s7 => ∃ k : Nat, k ≤ m ∧ s7 = .int .i64 (k : Int)) (fun s7 => m - (intOf s7).toNat)
  case atStart => exact ⟨0, by omega, rfl⟩
  case round =>
    obtain ⟨k, hkm, rfl⟩ := hrel
    have hX := Hdiv.out k
    obtain ⟨X, hX'⟩ : ∃ X, n / 2 ^ (k + 1) = X := ⟨_, rfl⟩
    rw [hX'] at hX
    have hmin : min (k + 1) 64 = k + 1 := by omega
    by_cases hlt : k < m
    · have hp := hX.2 hlt
      clear hX
      go_wp2_with fail
      go_round
      case rel => exact ⟨k + 1, by omega, by go_num⟩
      case measure => simp [intOf]; omega
    · have hp : ¬ 0 < X := fun e => hlt (hX.1 e)
      clear hX
      obtain rfl : k = m := by omega
      go_wp2_with fail
      refine (rappend_any _ D c 0 (k : Int) hb (by omega) (by omega) (by omega) (by omega) (by omega) (by omega) (by omega) _ (W0R.ext g1)).mono ?_
      rw [HA1.out]
      rintro e w3 ⟨a3, k3, rfl, R3, F3, g3⟩
      have R3 : Rd8 w3 (.slice a3 E1.length k3) E1 := R3
      have B3 := Blk.new w3 [.slice a3 E1.length k3, .int .i64 (d : Int)] 57
      have R3' := Rd.alloc R3 (.cells #[.slice a3 E1.length k3, .int .i64 (d : Int)] 57)
      have b30 := B3.cell 0 _ rfl
      have b31 := B3.cell 1 _ rfl
      have Z3 := (W1Z.ext g3).alloc (.cells #[.slice a3 E1.length k3, .int .i64 (d : Int)] 57)
      have y6 : IntKind.u32.wrap n = n := IntWalk.u32_in _ (by omega)
      clear pz0 pz1 py0 py1 p0 p1
      go_wp2_with fail
      refine (rappend_any _ E1 (d : Int) n ((k : Int) + 1) hb2 hl2 (by omega) (by omega) (by omega) (by omega) (by omega) (by omega) _ R3').mono ?_
      rw [HA2.out]
      rintro e w4 ⟨a4, k4, rfl, R4, F4, g4⟩
      have R4 : Rd8 w4 (.slice a4 E2.length k4) E2 := R4
      have Z4 := Z3.ext g4
      have z0 := Z4.cell 0 _ rfl
      have z1 := Z4.cell 1 _ rfl
      have y0 := Z4.frozen 0
      have y1 := Z4.frozen 1
      go_wp2_with fail
      have hs1 := g1.size
      simp at hs1
      have hs3 := g3.size
      have Z5 := (Z4.set 0 (.slice a4 E2.length k4)).set 1 (.int .i64 (c9 : Int))
      have e0 := Z5.cell 0 _ rfl
      have e1 := Z5.cell 1 _ rfl
      have hE4 : Ext w w4 := ((W0E.trans g1).trans g3).trans g4.past
      have hD := ((Chg.refl [w.heap.size + 1] w4).setCell (p := ⟨w.heap.size + 1, 0, none⟩) (Or.inl (by simp)) (.slice a4 E2.length k4)).setCell (p := ⟨w.heap.size + 1, 1, none⟩) (Or.inl (by simp)) (.int .i64 (c9 : Int))
      have hX := (hE4.setCell (p := ⟨w.heap.size + 1, 0, none⟩) (by simp) (.slice a4 E2.length k4)).setCell (p := ⟨w.heap.size + 1, 1, none⟩) (by simp) (.int .i64 (c9 : Int))
      refine bodyPost_ret (v := .tuple #[.agg #[.slice a4 E2.length k4, .int .i64 (c9 : Int)], .int .i64 0]) (by simp [results, Try.results45, go_sem, e0, e1]) rfl ?_
      exact ⟨a4, k4, rfl, Rd.chg R4 hD (fun x hx _ => by rw [List.mem_singleton.1 hx]; exact F4 _ (by simp; omega)), fun y hy => F4 y (by simp; omega), hX⟩

theorem rgam_any (v : Value) (D : List Int) (c n : Int) (hb : Bytes D) (hl : D.length ≤ 50000) (hc0 : -9223372036854775808 ≤ c) (hc1 : c ≤ 9223372036854775807) (hn0 : -9223372036854775808 ≤ n) (hn1 : n ≤ 9223372036854775807) (w : World) (h : Rd8 w v D) :
    Calls Try.prog 45 #[.agg #[v, .int .i64 c], .int .i64 n] w fun x w' => BitsPost w (gamF D c n) x w' := by
  by_cases hk : chkb D c = 0
  · by_cases hn : 1 ≤ n ∧ n ≤ 2147483647
    · by_cases hcn : c + 2 * (Lib.bitLen n.toNat : Int) - 1 ≤ 524288
      · exact rgam_good v D c n hb hl hc0 hc1 hn0 hn1 w h hk hn hcn
      · exact rgam_bad3 v D c n hb hl hc0 hc1 hn0 hn1 w h hk hn (by omega)
    · exact rgam_bad1 v D c n hb hl hc0 hc1 hn0 hn1 w h hk (by omega)
  · exact rgam_bad0 v D c n hb hl hc0 hc1 hn0 hn1 w h hk

end Go.Proofs.Ytlnlffmlficjnaa
