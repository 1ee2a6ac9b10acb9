/- The reference's Gamma. -/
import Derived.Test.YtlnlffmlficjnaaBx
namespace Go.Proofs.Ytlnlffmlficjnaa
open Go.RowKit
set_option linter.unusedVariables false
attribute [local go_sem ↓] Go.wp_at_zero Go.wp_at_succ


set_option maxHeartbeats 1000000 in
theorem rgam_bad0 (v : Value) (D : List Int) (c n : Int) (hb : Bytes D) (hl : D.length ≤ 50000) (hc0 : -9223372036854775808 ≤ c) (hc1 : c ≤ 9223372036854775807) (hn0 : -9223372036854775808 ≤ n) (hn1 : n ≤ 9223372036854775807) (w : World) (h : Rd8 w v D) (hk : chkb D c ≠ 0) :
    Calls Try.prog 45 #[.agg #[v, .int .i64 c], .int .i64 n] w fun x w' => BitsPost w (gamF D c n) x w' := by
  have hE : gamF D c n = (chkb D c, [], 0) := by unfold gamF; rw [if_pos hk]
  rw [hE]
  obtain ⟨k, hk'⟩ : ∃ k, chkb D c = k := ⟨_, rfl⟩
  have hz : (k != 0) = true := by rw [← hk']; simp [hk]
  rw [hk']
  have Hk := hidden hk'
  clear hk hE hk'
  obtain ⟨a, cap, rfl, q1, q2, q3⟩ := Rd.shape h
  have W0B : Blk ((w.alloc (.cells #[.slice a D.length cap, .int .i64 c] 57)).alloc (.cells #[.slice none 0 0, .int .i64 0] 57)) w.heap.size 57 [.slice a D.length cap, .int .i64 c] := (Blk.new w [.slice a D.length cap, .int .i64 c] _).alloc _
  have W0Z : Blk ((w.alloc (.cells #[.slice a D.length cap, .int .i64 c] 57)).alloc (.cells #[.slice none 0 0, .int .i64 0] 57)) (w.heap.size + 1) 57 [.slice none 0 0, .int .i64 0] := by
    have := Blk.new (w.alloc (.cells #[.slice a D.length cap, .int .i64 c] 57)) [.slice none 0 0, .int .i64 0] 57
    rw [World.size_alloc] at this
    exact this
  have W0R : Rd8 ((w.alloc (.cells #[.slice a D.length cap, .int .i64 c] 57)).alloc (.cells #[.slice none 0 0, .int .i64 0] 57)) (.slice a D.length cap) D := Rd.alloc (Rd.alloc h _) _
  have W0E : Ext w ((w.alloc (.cells #[.slice a D.length cap, .int .i64 c] 57)).alloc (.cells #[.slice none 0 0, .int .i64 0] 57)) := ((Ext.refl w).alloc _).alloc _
  have p0 := W0B.cell 0 _ rfl
  have p1 := W0B.cell 1 _ rfl
  go_enter Try.func45, Try.ntmps45
  go_wp2_with fail
  refine (rcheck_any _ D c hb (by omega) hc0 hc1 _ W0R).mono ?_
  rw [Hk.out]
  rintro e w1 ⟨rfl, g1⟩
  have W1B := W0B.ext g1
  have W1Z := W0Z.ext g1
  have pb0 := W1B.cell 0 _ rfl
  have pb1 := W1B.cell 1 _ rfl
  have pz0 := W1Z.cell 0 _ rfl
  have pz1 := W1Z.cell 1 _ rfl
  have py0 := W1Z.frozen 0
  have py1 := W1Z.frozen 1
  go_wp2_with fail
  refine bodyPost_ret (v := .tuple #[.agg #[.slice none 0 0, .int .i64 0], .int .i64 k]) (by simp [results, Try.results45, go_sem, pz0, pz1]) rfl ?_
  refine ⟨none, 0, rfl, Rd8.nil _, Fresh.nil _, ?_⟩
  exact ((Chg.of_ext [] (W0E.trans g1)).setCell (Or.inr (by simp)) _).setCell (Or.inr (by simp)) _ |>.ext

set_option maxHeartbeats 1000000 in
theorem rgam_bad1 (v : Value) (D : List Int) (c n : Int) (hb : Bytes D) (hl : D.length ≤ 50000) (hc0 : -9223372036854775808 ≤ c) (hc1 : c ≤ 9223372036854775807) (hn0 : -9223372036854775808 ≤ n) (hn1 : n ≤ 9223372036854775807) (w : World) (h : Rd8 w v D) (hk : chkb D c = 0) (hn : n < 1 ∨ 2147483647 < n) :
    Calls Try.prog 45 #[.agg #[v, .int .i64 c], .int .i64 n] w fun x w' => BitsPost w (gamF D c n) x w' := by
  have hE : gamF D c n = (2, [], 0) := by unfold gamF; rw [if_neg (by simp [hk]), if_pos hn]
  rw [hE]
  have Hk := hidden hk
  clear hk hE
  obtain ⟨a, cap, rfl, q1, q2, q3⟩ := Rd.shape h
  have W0B : Blk ((w.alloc (.cells #[.slice a D.length cap, .int .i64 c] 57)).alloc (.cells #[.slice none 0 0, .int .i64 0] 57)) w.heap.size 57 [.slice a D.length cap, .int .i64 c] := (Blk.new w [.slice a D.length cap, .int .i64 c] _).alloc _
  have W0Z : Blk ((w.alloc (.cells #[.slice a D.length cap, .int .i64 c] 57)).alloc (.cells #[.slice none 0 0, .int .i64 0] 57)) (w.heap.size + 1) 57 [.slice none 0 0, .int .i64 0] := by
    have := Blk.new (w.alloc (.cells #[.slice a D.length cap, .int .i64 c] 57)) [.slice none 0 0, .int .i64 0] 57
    rw [World.size_alloc] at this
    exact this
  have W0R : Rd8 ((w.alloc (.cells #[.slice a D.length cap, .int .i64 c] 57)).alloc (.cells #[.slice none 0 0, .int .i64 0] 57)) (.slice a D.length cap) D := Rd.alloc (Rd.alloc h _) _
  have W0E : Ext w ((w.alloc (.cells #[.slice a D.length cap, .int .i64 c] 57)).alloc (.cells #[.slice none 0 0, .int .i64 0] 57)) := ((Ext.refl w).alloc _).alloc _
  have p0 := W0B.cell 0 _ rfl
  have p1 := W0B.cell 1 _ rfl
  rcases hn with hn | hn
  · have hn' : ¬ 2147483648 ≤ n := by omega
    go_enter Try.func45, Try.ntmps45
    go_wp2_with fail
    refine (rcheck_any _ D c hb (by omega) hc0 hc1 _ W0R).mono ?_
    rw [Hk.out]
    rintro e w1 ⟨rfl, g1⟩
    have W1B := W0B.ext g1
    have W1Z := W0Z.ext g1
    have pb0 := W1B.cell 0 _ rfl
    have pb1 := W1B.cell 1 _ rfl
    have pz0 := W1Z.cell 0 _ rfl
    have pz1 := W1Z.cell 1 _ rfl
    have py0 := W1Z.frozen 0
    have py1 := W1Z.frozen 1
    go_wp2_with fail
    refine bodyPost_ret (v := .tuple #[.agg #[.slice none 0 0, .int .i64 0], .int .i64 2]) (by simp [results, Try.results45, go_sem, pz0, pz1]) rfl ?_
    refine ⟨none, 0, rfl, Rd8.nil _, Fresh.nil _, ?_⟩
    exact ((Chg.of_ext [] (W0E.trans g1)).setCell (Or.inr (by simp)) _).setCell (Or.inr (by simp)) _ |>.ext
  · have hn' : ¬ n < 1 := by omega
    have hn3 : 2147483648 ≤ n := by omega
    go_enter Try.func45, Try.ntmps45
    go_wp2_with fail
    refine (rcheck_any _ D c hb (by omega) hc0 hc1 _ W0R).mono ?_
    rw [Hk.out]
    rintro e w1 ⟨rfl, g1⟩
    have W1B := W0B.ext g1
    have W1Z := W0Z.ext g1
    have pb0 := W1B.cell 0 _ rfl
    have pb1 := W1B.cell 1 _ rfl
    have pz0 := W1Z.cell 0 _ rfl
    have pz1 := W1Z.cell 1 _ rfl
    have py0 := W1Z.frozen 0
    have py1 := W1Z.frozen 1
    go_wp2_with fail
    refine bodyPost_ret (v := .tuple #[.agg #[.slice none 0 0, .int .i64 0], .int .i64 2]) (by simp [results, Try.results45, go_sem, pz0, pz1]) rfl ?_
    refine ⟨none, 0, rfl, Rd8.nil _, Fresh.nil _, ?_⟩
    exact ((Chg.of_ext [] (W0E.trans g1)).setCell (Or.inr (by simp)) _).setCell (Or.inr (by simp)) _ |>.ext

set_option maxHeartbeats 1000000 in
theorem rgam_bad3 (v : Value) (D : List Int) (c n : Int) (hb : Bytes D) (hl : D.length ≤ 50000) (hc0 : -9223372036854775808 ≤ c) (hc1 : c ≤ 9223372036854775807) (hn0 : -9223372036854775808 ≤ n) (hn1 : n ≤ 9223372036854775807) (w : World) (h : Rd8 w v D) (hk : chkb D c = 0) (hn : 1 ≤ n ∧ n ≤ 2147483647) (hcn : 524288 < c + 2 * (Lib.bitLen n.toNat : Int) - 1) :
    Calls Try.prog 45 #[.agg #[v, .int .i64 c], .int .i64 n] w fun x w' => BitsPost w (gamF D c n) x w' := by
  have hE : gamF D c n = (5, [], 0) := by unfold gamF; rw [if_neg (by simp [hk]), if_neg (by omega), if_pos hcn]
  rw [hE]
  obtain ⟨hk0, hk1, -⟩ := chkb_wf hb hk
  have Hk := hidden hk
  clear hk hE
  obtain ⟨m, hL, hm⟩ := len_ex n hn.1 hn.2
  obtain ⟨c1, c2⟩ := bitLen_int n hn.1 hn.2 m hL
  have Hdiv : Hid (∀ k : Nat, 0 < n / 2 ^ (k + 1) ↔ k < m) := by
    refine hidden (fun k => ?_)
    have hp := pow2_pos (k + 1)
    constructor
    · intro hh
      rcases Nat.lt_or_ge k m with hkm | hkm
      · exact hkm
      · exfalso
        have h2 : (2 : Int) ^ (m + 1) ≤ 2 ^ (k + 1) := by
          have := Nat.pow_le_pow_right (show 0 < 2 by decide) (show m + 1 ≤ k + 1 by omega)
          have h3 : ((2 ^ (m + 1) : Nat) : Int) ≤ ((2 ^ (k + 1) : Nat) : Int) := Int.ofNat_le.mpr this
          simpa using h3
        rw [Int.ediv_eq_zero_of_lt (by omega) (by omega)] at hh
        exact absurd hh (by decide)
    · intro hkm
      have h2 : (2 : Int) ^ (k + 1) ≤ 2 ^ m := by
        have := Nat.pow_le_pow_right (show 0 < 2 by decide) (show k + 1 ≤ m by omega)
        have h3 : ((2 ^ (k + 1) : Nat) : Int) ≤ ((2 ^ m : Nat) : Int) := Int.ofNat_le.mpr this
        simpa using h3
      exact Int.le_ediv_of_mul_le hp (by omega)
  obtain ⟨hn2, hn3⟩ := hn
  have hn4 : ¬ n < 1 := by omega
  have hn5 : ¬ 2147483648 ≤ n := by omega
  rw [hL] at hcn
  have hL := hidden hL
  have hcn' : (524288 : Int) < c + 2 * (m : Int) + 1 := by omega
  have C1 := hidden c1
  have C2 := hidden c2
  clear hcn c1 c2
  obtain ⟨a, cap, rfl, q1, q2, q3⟩ := Rd.shape h
  have W0B : Blk ((w.alloc (.cells #[.slice a D.length cap, .int .i64 c] 57)).alloc (.cells #[.slice none 0 0, .int .i64 0] 57)) w.heap.size 57 [.slice a D.length cap, .int .i64 c] := (Blk.new w [.slice a D.length cap, .int .i64 c] _).alloc _
  have W0Z : Blk ((w.alloc (.cells #[.slice a D.length cap, .int .i64 c] 57)).alloc (.cells #[.slice none 0 0, .int .i64 0] 57)) (w.heap.size + 1) 57 [.slice none 0 0, .int .i64 0] := by
    have := Blk.new (w.alloc (.cells #[.slice a D.length cap, .int .i64 c] 57)) [.slice none 0 0, .int .i64 0] 57
    rw [World.size_alloc] at this
    exact this
  have W0R : Rd8 ((w.alloc (.cells #[.slice a D.length cap, .int .i64 c] 57)).alloc (.cells #[.slice none 0 0, .int .i64 0] 57)) (.slice a D.length cap) D := Rd.alloc (Rd.alloc h _) _
  have W0E : Ext w ((w.alloc (.cells #[.slice a D.length cap, .int .i64 c] 57)).alloc (.cells #[.slice none 0 0, .int .i64 0] 57)) := ((Ext.refl w).alloc _).alloc _
  have p0 := W0B.cell 0 _ rfl
  have p1 := W0B.cell 1 _ rfl
  go_enter Try.func45, Try.ntmps45
  go_wp2_with fail
  refine (rcheck_any _ D c hb (by omega) hc0 hc1 _ W0R).mono ?_
  rw [Hk.out]
  rintro e w1 ⟨rfl, g1⟩
  have W1B := W0B.ext g1
  have W1Z := W0Z.ext g1
  have pb0 := W1B.cell 0 _ rfl
  have pb1 := W1B.cell 1 _ rfl
  have pz0 := W1Z.cell 0 _ rfl
  have pz1 := W1Z.cell 1 _ rfl
  have py0 := W1Z.frozen 0
  have py1 := W1Z.frozen 1
  go_wp2_with fail
  go_loop [7] (fun s7 => ∃ k : Nat, k ≤ m ∧ s7 = .int .i64 (k : Int)) (fun s7 => m - (intOf s7).toNat)
  case atStart => exact ⟨0, by omega, rfl⟩
  case round =>
    obtain ⟨k, hkm, rfl⟩ := hrel
    have hX := Hdiv.out k
    obtain ⟨X, hX'⟩ : ∃ X, n / 2 ^ (k + 1) = X := ⟨_, rfl⟩
    rw [hX'] at hX
    have hmin : min (k + 1) 64 = k + 1 := by omega
    by_cases hlt : k < m
    · have hp := hX.2 hlt
      clear hX
      go_wp2_with fail
      go_round
      case rel => exact ⟨k + 1, by omega, by go_num⟩
      case measure => simp [intOf]; omega
    · have hp : ¬ 0 < X := fun e => hlt (hX.1 e)
      clear hX
      obtain rfl : k = m := by omega
      go_wp2_with fail
      refine bodyPost_ret (v := .tuple #[.agg #[.slice none 0 0, .int .i64 0], .int .i64 5]) (by simp [results, Try.results45, go_sem, pz0, pz1]) rfl ?_
      refine ⟨none, 0, rfl, Rd8.nil _, Fresh.nil _, ?_⟩
      exact ((Chg.of_ext [] (W0E.trans g1)).setCell (Or.inr (by simp)) _).setCell (Or.inr (by simp)) _ |>.ext

end Go.Proofs.Ytlnlffmlficjnaa
