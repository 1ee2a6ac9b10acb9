/- The reference's Append. -/
import Derived.Test.YtlnlffmlficjnaaBu
namespace Go.Proofs.Ytlnlffmlficjnaa
open Go.RowKit
set_option linter.unusedVariables false
attribute [local go_sem ↓] Go.wp_at_zero Go.wp_at_succ


set_option maxHeartbeats 1000000 in
theorem rappend_bad0 (v : Value) (D : List Int) (c y n : Int) (hb : Bytes D) (hl : D.length ≤ 60000) (hc0 : -9223372036854775808 ≤ c) (hc1 : c ≤ 9223372036854775807) (hy0 : 0 ≤ y) (hy1 : y ≤ 4294967295) (hn0 : -9223372036854775808 ≤ n) (hn1 : n ≤ 9223372036854775807) (w : World) (h : Rd8 w v D) (hk : chkb D c ≠ 0) :
    Calls Try.prog 44 #[.agg #[v, .int .i64 c], .int .u32 y, .int .i64 n] w fun x w' => BitsPost w (appF D c y n) x w' := by
  have hE : appF D c y n = (chkb D c, [], 0) := by unfold appF; rw [if_pos hk]
  rw [hE]
  obtain ⟨k, hk'⟩ : ∃ k, chkb D c = k := ⟨_, rfl⟩
  have hz : (k != 0) = true := by rw [← hk']; simp [hk]
  rw [hk']
  have Hk := hidden hk'
  clear hk hE hk'
  obtain ⟨a, cap, rfl, q1, q2, q3⟩ := Rd.shape h
  have W0B : Blk ((w.alloc (.cells #[.slice a D.length cap, .int .i64 c] 57)).alloc (.cells #[.slice none 0 0, .int .i64 0] 57)) w.heap.size 57 [.slice a D.length cap, .int .i64 c] := (Blk.new w [.slice a D.length cap, .int .i64 c] _).alloc _
  have W0Z : Blk ((w.alloc (.cells #[.slice a D.length cap, .int .i64 c] 57)).alloc (.cells #[.slice none 0 0, .int .i64 0] 57)) (w.heap.size + 1) 57 [.slice none 0 0, .int .i64 0] := by
    have := Blk.new (w.alloc (.cells #[.slice a D.length cap, .int .i64 c] 57)) [.slice none 0 0, .int .i64 0] 57
    rw [World.size_alloc] at this
    exact this
  have W0R : Rd8 ((w.alloc (.cells #[.slice a D.length cap, .int .i64 c] 57)).alloc (.cells #[.slice none 0 0, .int .i64 0] 57)) (.slice a D.length cap) D := Rd.alloc (Rd.alloc h _) _
  have W0E : Ext w ((w.alloc (.cells #[.slice a D.length cap, .int .i64 c] 57)).alloc (.cells #[.slice none 0 0, .int .i64 0] 57)) := ((Ext.refl w).alloc _).alloc _
  have p0 := W0B.cell 0 _ rfl
  have p1 := W0B.cell 1 _ rfl
  go_enter Try.func44, Try.ntmps44
  go_wp2_with fail
  refine (rcheck_any _ D c hb (by omega) hc0 hc1 _ W0R).mono ?_
  rw [Hk.out]
  rintro e w1 ⟨rfl, g1⟩
  have W1B := W0B.ext g1
  have W1Z := W0Z.ext g1
  have pb0 := W1B.cell 0 _ rfl
  have pb1 := W1B.cell 1 _ rfl
  have pz0 := W1Z.cell 0 _ rfl
  have pz1 := W1Z.cell 1 _ rfl
  have py0 := W1Z.frozen 0
  have py1 := W1Z.frozen 1
  go_wp2_with fail
  refine bodyPost_ret (v := .tuple #[.agg #[.slice none 0 0, .int .i64 0], .int .i64 k]) (by simp [results, Try.results44, go_sem, pz0, pz1]) rfl ?_
  refine ⟨none, 0, rfl, Rd8.nil _, Fresh.nil _, ?_⟩
  exact ((Chg.of_ext [] (W0E.trans g1)).setCell (Or.inr (by simp)) _).setCell (Or.inr (by simp)) _ |>.ext

set_option maxHeartbeats 1000000 in
theorem rappend_bad1 (v : Value) (D : List Int) (c y n : Int) (hb : Bytes D) (hl : D.length ≤ 60000) (hc0 : -9223372036854775808 ≤ c) (hc1 : c ≤ 9223372036854775807) (hy0 : 0 ≤ y) (hy1 : y ≤ 4294967295) (hn0 : -9223372036854775808 ≤ n) (hn1 : n ≤ 9223372036854775807) (w : World) (h : Rd8 w v D) (hk : chkb D c = 0) (hn : n < 0 ∨ 32 < n) :
    Calls Try.prog 44 #[.agg #[v, .int .i64 c], .int .u32 y, .int .i64 n] w fun x w' => BitsPost w (appF D c y n) x w' := by
  have hE : appF D c y n = (2, [], 0) := by unfold appF; rw [if_neg (by simp [hk]), if_pos hn]
  rw [hE]
  have Hk := hidden hk
  clear hk hE
  obtain ⟨a, cap, rfl, q1, q2, q3⟩ := Rd.shape h
  have W0B : Blk ((w.alloc (.cells #[.slice a D.length cap, .int .i64 c] 57)).alloc (.cells #[.slice none 0 0, .int .i64 0] 57)) w.heap.size 57 [.slice a D.length cap, .int .i64 c] := (Blk.new w [.slice a D.length cap, .int .i64 c] _).alloc _
  have W0Z : Blk ((w.alloc (.cells #[.slice a D.length cap, .int .i64 c] 57)).alloc (.cells #[.slice none 0 0, .int .i64 0] 57)) (w.heap.size + 1) 57 [.slice none 0 0, .int .i64 0] := by
    have := Blk.new (w.alloc (.cells #[.slice a D.length cap, .int .i64 c] 57)) [.slice none 0 0, .int .i64 0] 57
    rw [World.size_alloc] at this
    exact this
  have W0R : Rd8 ((w.alloc (.cells #[.slice a D.length cap, .int .i64 c] 57)).alloc (.cells #[.slice none 0 0, .int .i64 0] 57)) (.slice a D.length cap) D := Rd.alloc (Rd.alloc h _) _
  have W0E : Ext w ((w.alloc (.cells #[.slice a D.length cap, .int .i64 c] 57)).alloc (.cells #[.slice none 0 0, .int .i64 0] 57)) := ((Ext.refl w).alloc _).alloc _
  have p0 := W0B.cell 0 _ rfl
  have p1 := W0B.cell 1 _ rfl
  rcases hn with hn | hn
  · have hn' : ¬ 32 < n := by omega
    go_enter Try.func44, Try.ntmps44
    go_wp2_with fail
    refine (rcheck_any _ D c hb (by omega) hc0 hc1 _ W0R).mono ?_
    rw [Hk.out]
    rintro e w1 ⟨rfl, g1⟩
    have W1B := W0B.ext g1
    have W1Z := W0Z.ext g1
    have pb0 := W1B.cell 0 _ rfl
    have pb1 := W1B.cell 1 _ rfl
    have pz0 := W1Z.cell 0 _ rfl
    have pz1 := W1Z.cell 1 _ rfl
    have py0 := W1Z.frozen 0
    have py1 := W1Z.frozen 1
    go_wp2_with fail
    refine bodyPost_ret (v := .tuple #[.agg #[.slice none 0 0, .int .i64 0], .int .i64 2]) (by simp [results, Try.results44, go_sem, pz0, pz1]) rfl ?_
    refine ⟨none, 0, rfl, Rd8.nil _, Fresh.nil _, ?_⟩
    exact ((Chg.of_ext [] (W0E.trans g1)).setCell (Or.inr (by simp)) _).setCell (Or.inr (by simp)) _ |>.ext
  · have hn' : ¬ n < 0 := by omega
    go_enter Try.func44, Try.ntmps44
    go_wp2_with fail
    refine (rcheck_any _ D c hb (by omega) hc0 hc1 _ W0R).mono ?_
    rw [Hk.out]
    rintro e w1 ⟨rfl, g1⟩
    have W1B := W0B.ext g1
    have W1Z := W0Z.ext g1
    have pb0 := W1B.cell 0 _ rfl
    have pb1 := W1B.cell 1 _ rfl
    have pz0 := W1Z.cell 0 _ rfl
    have pz1 := W1Z.cell 1 _ rfl
    have py0 := W1Z.frozen 0
    have py1 := W1Z.frozen 1
    go_wp2_with fail
    refine bodyPost_ret (v := .tuple #[.agg #[.slice none 0 0, .int .i64 0], .int .i64 2]) (by simp [results, Try.results44, go_sem, pz0, pz1]) rfl ?_
    refine ⟨none, 0, rfl, Rd8.nil _, Fresh.nil _, ?_⟩
    exact ((Chg.of_ext [] (W0E.trans g1)).setCell (Or.inr (by simp)) _).setCell (Or.inr (by simp)) _ |>.ext

set_option maxHeartbeats 1000000 in
theorem rappend_bad2 (v : Value) (D : List Int) (c y n : Int) (hb : Bytes D) (hl : D.length ≤ 60000) (hc0 : -9223372036854775808 ≤ c) (hc1 : c ≤ 9223372036854775807) (hy0 : 0 ≤ y) (hy1 : y ≤ 4294967295) (hn0 : -9223372036854775808 ≤ n) (hn1 : n ≤ 9223372036854775807) (w : World) (h : Rd8 w v D) (hk : chkb D c = 0) (hn : 0 ≤ n ∧ n ≤ 32) (hy : 2 ^ n.toNat ≤ y) :
    Calls Try.prog 44 #[.agg #[v, .int .i64 c], .int .u32 y, .int .i64 n] w fun x w' => BitsPost w (appF D c y n) x w' := by
  have hE : appF D c y n = (1, [], 0) := by unfold appF; rw [if_neg (by simp [hk]), if_neg (by omega), if_pos hy]
  rw [hE]
  have Hk := hidden hk
  clear hk hE
  obtain ⟨hn2, hn3⟩ := hn
  have hn4 : ¬ n < 0 := by omega
  have hn5 : ¬ 32 < n := by omega
  have hn6 : min n.toNat 64 = n.toNat := by omega
  have hQ : (2 : Int) ^ n.toNat ≤ 4294967296 := by
    have := Nat.pow_le_pow_right (show 0 < 2 by decide) (show n.toNat ≤ 32 by omega)
    have h3 : ((2 ^ n.toNat : Nat) : Int) ≤ ((2 ^ 32 : Nat) : Int) := Int.ofNat_le.mpr this
    simpa using h3
  have hQ0 := pow2_pos n.toNat
  obtain ⟨Q, hQe⟩ : ∃ Q, (2 : Int) ^ n.toNat = Q := ⟨_, rfl⟩
  rw [hQe] at hQ hQ0 hy
  obtain ⟨a, cap, rfl, q1, q2, q3⟩ := Rd.shape h
  have W0B : Blk ((w.alloc (.cells #[.slice a D.length cap, .int .i64 c] 57)).alloc (.cells #[.slice none 0 0, .int .i64 0] 57)) w.heap.size 57 [.slice a D.length cap, .int .i64 c] := (Blk.new w [.slice a D.length cap, .int .i64 c] _).alloc _
  have W0Z : Blk ((w.alloc (.cells #[.slice a D.length cap, .int .i64 c] 57)).alloc (.cells #[.slice none 0 0, .int .i64 0] 57)) (w.heap.size + 1) 57 [.slice none 0 0, .int .i64 0] := by
    have := Blk.new (w.alloc (.cells #[.slice a D.length cap, .int .i64 c] 57)) [.slice none 0 0, .int .i64 0] 57
    rw [World.size_alloc] at this
    exact this
  have W0R : Rd8 ((w.alloc (.cells #[.slice a D.length cap, .int .i64 c] 57)).alloc (.cells #[.slice none 0 0, .int .i64 0] 57)) (.slice a D.length cap) D := Rd.alloc (Rd.alloc h _) _
  have W0E : Ext w ((w.alloc (.cells #[.slice a D.length cap, .int .i64 c] 57)).alloc (.cells #[.slice none 0 0, .int .i64 0] 57)) := ((Ext.refl w).alloc _).alloc _
  have p0 := W0B.cell 0 _ rfl
  have p1 := W0B.cell 1 _ rfl
  go_enter Try.func44, Try.ntmps44
  go_wp2_with fail
  refine (rcheck_any _ D c hb (by omega) hc0 hc1 _ W0R).mono ?_
  rw [Hk.out]
  rintro e w1 ⟨rfl, g1⟩
  have W1B := W0B.ext g1
  have W1Z := W0Z.ext g1
  have pb0 := W1B.cell 0 _ rfl
  have pb1 := W1B.cell 1 _ rfl
  have pz0 := W1Z.cell 0 _ rfl
  have pz1 := W1Z.cell 1 _ rfl
  have py0 := W1Z.frozen 0
  have py1 := W1Z.frozen 1
  go_wp2_with fail
  refine bodyPost_ret (v := .tuple #[.agg #[.slice none 0 0, .int .i64 0], .int .i64 1]) (by simp [results, Try.results44, go_sem, pz0, pz1]) rfl ?_
  refine ⟨none, 0, rfl, Rd8.nil _, Fresh.nil _, ?_⟩
  exact ((Chg.of_ext [] (W0E.trans g1)).setCell (Or.inr (by simp)) _).setCell (Or.inr (by simp)) _ |>.ext

set_option maxHeartbeats 1000000 in
theorem rappend_bad3 (v : Value) (D : List Int) (c y n : Int) (hb : Bytes D) (hl : D.length ≤ 60000) (hc0 : -9223372036854775808 ≤ c) (hc1 : c ≤ 9223372036854775807) (hy0 : 0 ≤ y) (hy1 : y ≤ 4294967295) (hn0 : -9223372036854775808 ≤ n) (hn1 : n ≤ 9223372036854775807) (w : World) (h : Rd8 w v D) (hk : chkb D c = 0) (hn : 0 ≤ n ∧ n ≤ 32) (hy : y < 2 ^ n.toNat) (hcn : 524288 < c + n) :
    Calls Try.prog 44 #[.agg #[v, .int .i64 c], .int .u32 y, .int .i64 n] w fun x w' => BitsPost w (appF D c y n) x w' := by
  have hE : appF D c y n = (5, [], 0) := by unfold appF; rw [if_neg (by simp [hk]), if_neg (by omega), if_neg (by omega), if_pos hcn]
  rw [hE]
  obtain ⟨hk0, hk1, -⟩ := chkb_wf hb hk
  have Hk := hidden hk
  clear hk hE
  obtain ⟨hn2, hn3⟩ := hn
  have hn4 : ¬ n < 0 := by omega
  have hn5 : ¬ 32 < n := by omega
  have hn6 : min n.toNat 64 = n.toNat := by omega
  have hQ : (2 : Int) ^ n.toNat ≤ 4294967296 := by
    have := Nat.pow_le_pow_right (show 0 < 2 by decide) (show n.toNat ≤ 32 by omega)
    have h3 : ((2 ^ n.toNat : Nat) : Int) ≤ ((2 ^ 32 : Nat) : Int) := Int.ofNat_le.mpr this
    simpa using h3
  have hQ0 := pow2_pos n.toNat
  obtain ⟨Q, hQe⟩ : ∃ Q, (2 : Int) ^ n.toNat = Q := ⟨_, rfl⟩
  rw [hQe] at hQ hQ0 hy
  obtain ⟨a, cap, rfl, q1, q2, q3⟩ := Rd.shape h
  have W0B : Blk ((w.alloc (.cells #[.slice a D.length cap, .int .i64 c] 57)).alloc (.cells #[.slice none 0 0, .int .i64 0] 57)) w.heap.size 57 [.slice a D.length cap, .int .i64 c] := (Blk.new w [.slice a D.length cap, .int .i64 c] _).alloc _
  have W0Z : Blk ((w.alloc (.cells #[.slice a D.length cap, .int .i64 c] 57)).alloc (.cells #[.slice none 0 0, .int .i64 0] 57)) (w.heap.size + 1) 57 [.slice none 0 0, .int .i64 0] := by
    have := Blk.new (w.alloc (.cells #[.slice a D.length cap, .int .i64 c] 57)) [.slice none 0 0, .int .i64 0] 57
    rw [World.size_alloc] at this
    exact this
  have W0R : Rd8 ((w.alloc (.cells #[.slice a D.length cap, .int .i64 c] 57)).alloc (.cells #[.slice none 0 0, .int .i64 0] 57)) (.slice a D.length cap) D := Rd.alloc (Rd.alloc h _) _
  have W0E : Ext w ((w.alloc (.cells #[.slice a D.length cap, .int .i64 c] 57)).alloc (.cells #[.slice none 0 0, .int .i64 0] 57)) := ((Ext.refl w).alloc _).alloc _
  have p0 := W0B.cell 0 _ rfl
  have p1 := W0B.cell 1 _ rfl
  go_enter Try.func44, Try.ntmps44
  go_wp2_with fail
  refine (rcheck_any _ D c hb (by omega) hc0 hc1 _ W0R).mono ?_
  rw [Hk.out]
  rintro e w1 ⟨rfl, g1⟩
  have W1B := W0B.ext g1
  have W1Z := W0Z.ext g1
  have pb0 := W1B.cell 0 _ rfl
  have pb1 := W1B.cell 1 _ rfl
  have pz0 := W1Z.cell 0 _ rfl
  have pz1 := W1Z.cell 1 _ rfl
  have py0 := W1Z.frozen 0
  have py1 := W1Z.frozen 1
  go_wp2_with fail
  refine bodyPost_ret (v := .tuple #[.agg #[.slice none 0 0, .int .i64 0], .int .i64 5]) (by simp [results, Try.results44, go_sem, pz0, pz1]) rfl ?_
  refine ⟨none, 0, rfl, Rd8.nil _, Fresh.nil _, ?_⟩
  exact ((Chg.of_ext [] (W0E.trans g1)).setCell (Or.inr (by simp)) _).setCell (Or.inr (by simp)) _ |>.ext

end Go.Proofs.Ytlnlffmlficjnaa
