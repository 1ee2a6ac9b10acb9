/- The rules of layer 19. -/
import Derived.Test.YtbpnagamcohlnaaIl
import Derived.StillTailTactics
import Derived.Deep.RegionHeld3
import Derived.BigRegion
import Derived.Deep.CutRange
import Derived.Deep.DeepCutAuto
namespace Go.Proofs.Ytbpnagamcohlnaa
open Go.RowKit
set_option linter.unusedVariables false


set_option maxHeartbeats 1000000 in
theorem radd_any (a b c d : Int) (h0 : 0 ≤ a) (h1 : a ≤ b) (h2 : b ≤ 4294967295) (h3 : 0 ≤ c) (h4 : c ≤ d) (h5 : d ≤ 4294967295) (w : World) : Calls Try.prog 37 #[.agg #[.int .i64 a, .int .i64 b, .int .i64 c, .int .i64 d]] w fun x w' => x = .returned (.agg #[.int .i64 (rulL 8 a b c d), .int .i64 (rulH 8 a b c d)]) ∧ Ext w w' := by
  rw [show rulL 8 a b c d = shL (a + c) (b + d) by simp [rulL], show rulH 8 a b c d = shH (a + c) (b + d) by simp [rulH]]
  obtain ⟨L, hL⟩ : ∃ L, shL (a + c) (b + d) = L := ⟨_, rfl⟩
  obtain ⟨H, hH⟩ : ∃ H, shH (a + c) (b + d) = H := ⟨_, rfl⟩
  rw [hL, hH]
  have hL := hidden hL
  have hH := hidden hH
  have W0X : Blk ((w.alloc (.cells #[.int .i64 a, .int .i64 b, .int .i64 c, .int .i64 d] 58)).alloc (.cells #[.int .i64 0, .int .i64 0] 23)) w.heap.size 58 [.int .i64 a, .int .i64 b, .int .i64 c, .int .i64 d] := (Blk.new w _ _).alloc _
  have W0Z : Blk ((w.alloc (.cells #[.int .i64 a, .int .i64 b, .int .i64 c, .int .i64 d] 58)).alloc (.cells #[.int .i64 0, .int .i64 0] 23)) (w.heap.size + 1) 23 [.int .i64 0, .int .i64 0] := by
    have := Blk.new (w.alloc (.cells #[.int .i64 a, .int .i64 b, .int .i64 c, .int .i64 d] 58)) [.int .i64 0, .int .i64 0] 23
    rw [World.size_alloc] at this
    exact this
  go_enter Try.func37, Try.ntmps37
  go_wp2_with fail
  refine (shifted_any _ _ (by omega) (by omega) (by omega) (by omega) _).mono ?_
  rw [hL.out, hH.out]
  rintro e1 w1 ⟨rfl, hE1⟩
  have W1X := W0X.ext hE1
  have W1Z := W0Z.ext hE1
  have q1X0 := W1X.cell 0 _ rfl
  have q1X1 := W1X.cell 1 _ rfl
  have q1X2 := W1X.cell 2 _ rfl
  have q1X3 := W1X.cell 3 _ rfl
  have q1Z0 := W1Z.cell 0 _ rfl
  have f1Z0 := W1Z.frozen 0
  have q1Z1 := W1Z.cell 1 _ rfl
  have f1Z1 := W1Z.frozen 1
  go_wp2_with fail
  refine bodyPost_ret (v := .agg #[.int .i64 L, .int .i64 H]) (by simp [results, Try.results37, go_sem, *]) rfl ⟨rfl, ?_⟩
  repeat' (first | exact Ext.refl _ | assumption | (with_reducible refine Ext.alloc ?_ _) | (with_reducible refine Ext.drew ?_) | (with_reducible refine Ext.drewN _ ?_) | (refine Ext.setCell ?_ (by first | exact Nat.le_refl _ | (simp; done) | (simp; omega) | omega) _) | (refine Ext.trans ?_ (by assumption)))
set_option maxHeartbeats 1000000 in
theorem rsub_any (a b c d : Int) (h0 : 0 ≤ a) (h1 : a ≤ b) (h2 : b ≤ 4294967295) (h3 : 0 ≤ c) (h4 : c ≤ d) (h5 : d ≤ 4294967295) (w : World) : Calls Try.prog 38 #[.agg #[.int .i64 a, .int .i64 b, .int .i64 c, .int .i64 d]] w fun x w' => x = .returned (.agg #[.int .i64 (rulL 9 a b c d), .int .i64 (rulH 9 a b c d)]) ∧ Ext w w' := by
  rw [show rulL 9 a b c d = shL (a - d) (b - c) by simp [rulL], show rulH 9 a b c d = shH (a - d) (b - c) by simp [rulH]]
  obtain ⟨L, hL⟩ : ∃ L, shL (a - d) (b - c) = L := ⟨_, rfl⟩
  obtain ⟨H, hH⟩ : ∃ H, shH (a - d) (b - c) = H := ⟨_, rfl⟩
  rw [hL, hH]
  have hL := hidden hL
  have hH := hidden hH
  have W0X : Blk ((w.alloc (.cells #[.int .i64 a, .int .i64 b, .int .i64 c, .int .i64 d] 58)).alloc (.cells #[.int .i64 0, .int .i64 0] 23)) w.heap.size 58 [.int .i64 a, .int .i64 b, .int .i64 c, .int .i64 d] := (Blk.new w _ _).alloc _
  have W0Z : Blk ((w.alloc (.cells #[.int .i64 a, .int .i64 b, .int .i64 c, .int .i64 d] 58)).alloc (.cells #[.int .i64 0, .int .i64 0] 23)) (w.heap.size + 1) 23 [.int .i64 0, .int .i64 0] := by
    have := Blk.new (w.alloc (.cells #[.int .i64 a, .int .i64 b, .int .i64 c, .int .i64 d] 58)) [.int .i64 0, .int .i64 0] 23
    rw [World.size_alloc] at this
    exact this
  go_enter Try.func38, Try.ntmps38
  go_wp2_with fail
  refine (shifted_any _ _ (by omega) (by omega) (by omega) (by omega) _).mono ?_
  rw [hL.out, hH.out]
  rintro e1 w1 ⟨rfl, hE1⟩
  have W1X := W0X.ext hE1
  have W1Z := W0Z.ext hE1
  have q1X0 := W1X.cell 0 _ rfl
  have q1X1 := W1X.cell 1 _ rfl
  have q1X2 := W1X.cell 2 _ rfl
  have q1X3 := W1X.cell 3 _ rfl
  have q1Z0 := W1Z.cell 0 _ rfl
  have f1Z0 := W1Z.frozen 0
  have q1Z1 := W1Z.cell 1 _ rfl
  have f1Z1 := W1Z.frozen 1
  go_wp2_with fail
  refine bodyPost_ret (v := .agg #[.int .i64 L, .int .i64 H]) (by simp [results, Try.results38, go_sem, *]) rfl ⟨rfl, ?_⟩
  repeat' (first | exact Ext.refl _ | assumption | (with_reducible refine Ext.alloc ?_ _) | (with_reducible refine Ext.drew ?_) | (with_reducible refine Ext.drewN _ ?_) | (refine Ext.setCell ?_ (by first | exact Nat.le_refl _ | (simp; done) | (simp; omega) | omega) _) | (refine Ext.trans ?_ (by assumption)))
set_option maxHeartbeats 1000000 in
theorem rand_any (a b c d : Int) (h0 : 0 ≤ a) (h1 : a ≤ b) (h2 : b ≤ 4294967295) (h3 : 0 ≤ c) (h4 : c ≤ d) (h5 : d ≤ 4294967295) (w : World) : Calls Try.prog 42 #[.agg #[.int .i64 a, .int .i64 b, .int .i64 c, .int .i64 d]] w fun x w' => x = .returned (.agg #[.int .i64 (rulL 13 a b c d), .int .i64 (rulH 13 a b c d)]) ∧ Ext w w' := by
  rw [show rulL 13 a b c d = 0 by simp [rulL], show rulH 13 a b c d = min b d by simp [rulH]]
  go_enter Try.func42, Try.ntmps42
  go_wp2_with fail
  all_goals
    refine bodyPost_ret (v := .agg #[_, _]) (by simp [results, Try.results42, go_sem, *]; exact ⟨rfl, rfl⟩) rfl ⟨ret_iv (by omega) (by omega), ?_⟩
    repeat' (first | exact Ext.refl _ | assumption | (with_reducible refine Ext.alloc ?_ _) | (with_reducible refine Ext.drew ?_) | (with_reducible refine Ext.drewN _ ?_) | (refine Ext.setCell ?_ (by first | exact Nat.le_refl _ | (simp; done) | (simp; omega) | omega) _) | (refine Ext.trans ?_ (by assumption)))
set_option maxHeartbeats 1000000 in
theorem rleast_any (a b c d : Int) (h0 : 0 ≤ a) (h1 : a ≤ b) (h2 : b ≤ 4294967295) (h3 : 0 ≤ c) (h4 : c ≤ d) (h5 : d ≤ 4294967295) (w : World) : Calls Try.prog 47 #[.agg #[.int .i64 a, .int .i64 b, .int .i64 c, .int .i64 d]] w fun x w' => x = .returned (.agg #[.int .i64 (rulL 18 a b c d), .int .i64 (rulH 18 a b c d)]) ∧ Ext w w' := by
  rw [show rulL 18 a b c d = min a c by simp [rulL], show rulH 18 a b c d = min b d by simp [rulH]]
  go_enter Try.func47, Try.ntmps47
  go_wp2_with fail
  all_goals
    refine bodyPost_ret (v := .agg #[_, _]) (by simp [results, Try.results47, go_sem, *]; exact ⟨rfl, rfl⟩) rfl ⟨ret_iv (by omega) (by omega), ?_⟩
    repeat' (first | exact Ext.refl _ | assumption | (with_reducible refine Ext.alloc ?_ _) | (with_reducible refine Ext.drew ?_) | (with_reducible refine Ext.drewN _ ?_) | (refine Ext.setCell ?_ (by first | exact Nat.le_refl _ | (simp; done) | (simp; omega) | omega) _) | (refine Ext.trans ?_ (by assumption)))
set_option maxHeartbeats 1000000 in
theorem rgreatest_any (a b c d : Int) (h0 : 0 ≤ a) (h1 : a ≤ b) (h2 : b ≤ 4294967295) (h3 : 0 ≤ c) (h4 : c ≤ d) (h5 : d ≤ 4294967295) (w : World) : Calls Try.prog 48 #[.agg #[.int .i64 a, .int .i64 b, .int .i64 c, .int .i64 d]] w fun x w' => x = .returned (.agg #[.int .i64 (rulL 19 a b c d), .int .i64 (rulH 19 a b c d)]) ∧ Ext w w' := by
  rw [show rulL 19 a b c d = max a c by simp [rulL], show rulH 19 a b c d = max b d by simp [rulH]]
  go_enter Try.func48, Try.ntmps48
  go_wp2_with fail
  all_goals
    refine bodyPost_ret (v := .agg #[_, _]) (by simp [results, Try.results48, go_sem, *]; exact ⟨rfl, rfl⟩) rfl ⟨ret_iv (by omega) (by omega), ?_⟩
    repeat' (first | exact Ext.refl _ | assumption | (with_reducible refine Ext.alloc ?_ _) | (with_reducible refine Ext.drew ?_) | (with_reducible refine Ext.drewN _ ?_) | (refine Ext.setCell ?_ (by first | exact Nat.le_refl _ | (simp; done) | (simp; omega) | omega) _) | (refine Ext.trans ?_ (by assumption)))
set_option maxHeartbeats 1000000 in
theorem rhashop_any (a b c d : Int) (h0 : 0 ≤ a) (h1 : a ≤ b) (h2 : b ≤ 4294967295) (h3 : 0 ≤ c) (h4 : c ≤ d) (h5 : d ≤ 4294967295) (w : World) : Calls Try.prog 49 #[.agg #[.int .i64 a, .int .i64 b, .int .i64 c, .int .i64 d]] w fun x w' => x = .returned (.agg #[.int .i64 (rulL 20 a b c d), .int .i64 (rulH 20 a b c d)]) ∧ Ext w w' := by
  rw [show rulL 20 a b c d = 0 by simp [rulL], show rulH 20 a b c d = 4294967295 by simp [rulH]]
  have W0X : Blk ((w.alloc (.cells #[.int .i64 a, .int .i64 b, .int .i64 c, .int .i64 d] 58)).alloc (.cells #[.int .i64 0, .int .i64 0] 23)) w.heap.size 58 [.int .i64 a, .int .i64 b, .int .i64 c, .int .i64 d] := (Blk.new w _ _).alloc _
  have W0Z : Blk ((w.alloc (.cells #[.int .i64 a, .int .i64 b, .int .i64 c, .int .i64 d] 58)).alloc (.cells #[.int .i64 0, .int .i64 0] 23)) (w.heap.size + 1) 23 [.int .i64 0, .int .i64 0] := by
    have := Blk.new (w.alloc (.cells #[.int .i64 a, .int .i64 b, .int .i64 c, .int .i64 d] 58)) [.int .i64 0, .int .i64 0] 23
    rw [World.size_alloc] at this
    exact this
  go_enter Try.func49, Try.ntmps49
  go_wp2_with fail
  refine (full_any _).mono ?_
  rintro e1 w1 ⟨rfl, hE1⟩
  have W1X := W0X.ext hE1
  have W1Z := W0Z.ext hE1
  have q1X0 := W1X.cell 0 _ rfl
  have q1X1 := W1X.cell 1 _ rfl
  have q1X2 := W1X.cell 2 _ rfl
  have q1X3 := W1X.cell 3 _ rfl
  have q1Z0 := W1Z.cell 0 _ rfl
  have f1Z0 := W1Z.frozen 0
  have q1Z1 := W1Z.cell 1 _ rfl
  have f1Z1 := W1Z.frozen 1
  go_wp2_with fail
  refine bodyPost_ret (v := .agg #[.int .i64 0, .int .i64 4294967295]) (by simp [results, Try.results49, go_sem, *]) rfl ⟨rfl, ?_⟩
  repeat' (first | exact Ext.refl _ | assumption | (with_reducible refine Ext.alloc ?_ _) | (with_reducible refine Ext.drew ?_) | (with_reducible refine Ext.drewN _ ?_) | (refine Ext.setCell ?_ (by first | exact Nat.le_refl _ | (simp; done) | (simp; omega) | omega) _) | (refine Ext.trans ?_ (by assumption)))
set_option maxHeartbeats 1000000 in
theorem rmod_any (a b c d : Int) (h0 : 0 ≤ a) (h1 : a ≤ b) (h2 : b ≤ 4294967295) (h3 : 0 ≤ c) (h4 : c ≤ d) (h5 : d ≤ 4294967295) (hc : 1 ≤ c) (w : World) : Calls Try.prog 41 #[.agg #[.int .i64 a, .int .i64 b, .int .i64 c, .int .i64 d]] w fun x w' => x = .returned (.agg #[.int .i64 (rulL 12 a b c d), .int .i64 (rulH 12 a b c d)]) ∧ Ext w w' := by
  by_cases k : b < c
  · rw [show rulL 12 a b c d = a by simp [rulL, k], show rulH 12 a b c d = b by simp [rulH, k]]
    go_enter Try.func41, Try.ntmps41
    go_wp2_with fail
    refine bodyPost_ret (v := .agg #[.int .i64 a, .int .i64 b]) (by simp [results, Try.results41, go_sem, *]) rfl ⟨rfl, ?_⟩
    repeat' (first | exact Ext.refl _ | assumption | (with_reducible refine Ext.alloc ?_ _) | (with_reducible refine Ext.drew ?_) | (with_reducible refine Ext.drewN _ ?_) | (refine Ext.setCell ?_ (by first | exact Nat.le_refl _ | (simp; done) | (simp; omega) | omega) _) | (refine Ext.trans ?_ (by assumption)))
  · rw [show rulL 12 a b c d = 0 by simp [rulL, k], show rulH 12 a b c d = min b (d - 1) by simp [rulH, k]]
    go_enter Try.func41, Try.ntmps41
    go_wp2_with fail
    all_goals
      refine bodyPost_ret (v := .agg #[_, _]) (by simp [results, Try.results41, go_sem, *]; exact ⟨rfl, rfl⟩) rfl ⟨ret_iv (by omega) (by omega), ?_⟩
      repeat' (first | exact Ext.refl _ | assumption | (with_reducible refine Ext.alloc ?_ _) | (with_reducible refine Ext.drew ?_) | (with_reducible refine Ext.drewN _ ?_) | (refine Ext.setCell ?_ (by first | exact Nat.le_refl _ | (simp; done) | (simp; omega) | omega) _) | (refine Ext.trans ?_ (by assumption)))
set_option maxHeartbeats 1000000 in
theorem rdiv_any (a b c d : Int) (h0 : 0 ≤ a) (h1 : a ≤ b) (h2 : b ≤ 4294967295) (h3 : 0 ≤ c) (h4 : c ≤ d) (h5 : d ≤ 4294967295) (hc : 1 ≤ c) (w : World) : Calls Try.prog 40 #[.agg #[.int .i64 a, .int .i64 b, .int .i64 c, .int .i64 d]] w fun x w' => x = .returned (.agg #[.int .i64 (rulL 11 a b c d), .int .i64 (rulH 11 a b c d)]) ∧ Ext w w' := by
  rw [show rulL 11 a b c d = a / d by simp [rulL], show rulH 11 a b c d = b / c by simp [rulH]]
  have y1 : IntKind.i64.wrap (a.tdiv d) = a / d := IntWalk.i64_quo _ _ (by omega)
  have y2 : IntKind.i64.wrap (b.tdiv c) = b / c := IntWalk.i64_quo _ _ (by omega)
  have z1 : ¬ d = 0 := by omega
  have z2 : ¬ c = 0 := by omega
  have W0X : Blk ((w.alloc (.cells #[.int .i64 a, .int .i64 b, .int .i64 c, .int .i64 d] 58)).alloc (.cells #[.int .i64 0, .int .i64 0] 23)) w.heap.size 58 [.int .i64 a, .int .i64 b, .int .i64 c, .int .i64 d] := (Blk.new w _ _).alloc _
  have W0Z : Blk ((w.alloc (.cells #[.int .i64 a, .int .i64 b, .int .i64 c, .int .i64 d] 58)).alloc (.cells #[.int .i64 0, .int .i64 0] 23)) (w.heap.size + 1) 23 [.int .i64 0, .int .i64 0] := by
    have := Blk.new (w.alloc (.cells #[.int .i64 a, .int .i64 b, .int .i64 c, .int .i64 d] 58)) [.int .i64 0, .int .i64 0] 23
    rw [World.size_alloc] at this
    exact this
  go_enter Try.func40, Try.ntmps40
  go_upto_region 1 with fail
  obtain ⟨W, hW⟩ : ∃ W, (w.alloc (.cells #[.int .i64 a, .int .i64 b, .int .i64 c, .int .i64 d] 58)).alloc (.cells #[.int .i64 0, .int .i64 0] 23) = W := ⟨_, rfl⟩
  have hX : Ext w W := hW ▸ ((Ext.refl w).alloc _).alloc _
  rw [hW] at W0X W0Z
  have q0X0 := W0X.cell 0 _ rfl
  have q0X1 := W0X.cell 1 _ rfl
  have q0X2 := W0X.cell 2 _ rfl
  have q0X3 := W0X.cell 3 _ rfl
  have q0Z0 := W0Z.cell 0 _ rfl
  have f0Z0 := W0Z.frozen 0
  have q0Z1 := W0Z.cell 1 _ rfl
  have f0Z1 := W0Z.frozen 1
  rw [hW]
  clear hW
  go_still_tail 11, (by kernel_rfl)
  change wpList _ _ _ _ _ W.drew
  have q1X0 := W0X.drew.cell 0 _ rfl
  have q1X1 := W0X.drew.cell 1 _ rfl
  have q1X2 := W0X.drew.cell 2 _ rfl
  have q1X3 := W0X.drew.cell 3 _ rfl
  have q1Z0 := W0Z.drew.cell 0 _ rfl
  have f1Z0 := W0Z.drew.frozen 0
  have q1Z1 := W0Z.drew.cell 1 _ rfl
  have f1Z1 := W0Z.drew.frozen 1
  clear q0X0 q0X1 q0X2 q0X3 q0Z0 q0Z1 f0Z0 f0Z1
  have hX2 := hX.drew
  obtain ⟨W2, hW2⟩ : ∃ W2, W.drew = W2 := ⟨_, rfl⟩
  rw [hW2] at hX2 q1X0 q1X1 q1X2 q1X3 q1Z0 q1Z1 f1Z0 f1Z1 ⊢
  clear hW2
  go_wp2_with fail
  refine bodyPost_ret (v := .agg #[.int .i64 (a / d), .int .i64 (b / c)]) (by simp [results, Try.results40, go_sem, *]) rfl ⟨rfl, ?_⟩
  repeat' (first | exact Ext.refl _ | assumption | (with_reducible refine Ext.alloc ?_ _) | (with_reducible refine Ext.drew ?_) | (with_reducible refine Ext.drewN _ ?_) | (refine Ext.setCell ?_ (by first | exact Nat.le_refl _ | (simp; done) | (simp; omega) | omega) _) | (refine Ext.trans ?_ (by assumption)))
theorem shl_bd (a b : Int) (s : Nat) (h0 : 0 ≤ a) (h1 : a ≤ b) (hs : s ≤ 31) (hk : b ≤ 4294967295 / 2 ^ s) :
    IntKind.i64.wrap (a * 2 ^ min s 64) = a * 2 ^ s ∧ IntKind.i64.wrap (b * 2 ^ min s 64) = b * 2 ^ s ∧ wrap64 (a * 2 ^ s) = a * 2 ^ s ∧ wrap64 (b * 2 ^ s) = b * 2 ^ s := by
  obtain ⟨p0, p1⟩ := pow_bd s (by omega)
  rw [Nat.min_eq_left (by omega)]
  obtain ⟨p, hp⟩ : ∃ p : Int, 2 ^ s = p := ⟨_, rfl⟩
  rw [hp] at p0 p1 hk ⊢
  have hb : b * p ≤ 4294967295 := Int.le_trans (Int.mul_le_mul_of_nonneg_right hk (by omega)) (Int.ediv_mul_le _ (by omega))
  have hab : a * p ≤ b * p := Int.mul_le_mul_of_nonneg_right h1 (by omega)
  have ha : 0 ≤ a * p := Int.mul_nonneg h0 (by omega)
  exact ⟨IntWalk.i64_in _ (by omega), IntWalk.i64_in _ (by omega), IntWalk.wrap64_in _ (by omega), IntWalk.wrap64_in _ (by omega)⟩
set_option maxHeartbeats 1000000 in
theorem rshl_any (a b c d : Int) (h0 : 0 ≤ a) (h1 : a ≤ b) (h2 : b ≤ 4294967295) (h3 : 0 ≤ c) (h4 : c ≤ d) (h5 : d ≤ 4294967295) (w : World) : Calls Try.prog 45 #[.agg #[.int .i64 a, .int .i64 b, .int .i64 c, .int .i64 d]] w fun x w' => x = .returned (.agg #[.int .i64 (rulL 16 a b c d), .int .i64 (rulH 16 a b c d)]) ∧ Ext w w' := by
  have z1 : 0 ≤ c % 32 := by omega
  have z2 : c % 32 < 32 := by omega
  by_cases k1 : c = d
  · by_cases k2 : 4294967295 / 2 ^ (c % 32).toNat < b
    · rw [show rulL 16 a b c d = 0 by unfold rulL; (repeat rw [if_neg (by decide)]); rw [if_pos rfl, if_pos (Or.inr k2)], show rulH 16 a b c d = 4294967295 by unfold rulH; (repeat rw [if_neg (by decide)]); rw [if_pos rfl, if_pos (Or.inr k2)]]
      have k3 : (c != d) = false := by simp [k1]
      clear k1
      have W0X : Blk ((w.alloc (.cells #[.int .i64 a, .int .i64 b, .int .i64 c, .int .i64 d] 58)).alloc (.cells #[.int .i64 0, .int .i64 0] 23)) w.heap.size 58 [.int .i64 a, .int .i64 b, .int .i64 c, .int .i64 d] := (Blk.new w _ _).alloc _
      have W0Z : Blk ((w.alloc (.cells #[.int .i64 a, .int .i64 b, .int .i64 c, .int .i64 d] 58)).alloc (.cells #[.int .i64 0, .int .i64 0] 23)) (w.heap.size + 1) 23 [.int .i64 0, .int .i64 0] := by
        have := Blk.new (w.alloc (.cells #[.int .i64 a, .int .i64 b, .int .i64 c, .int .i64 d] 58)) [.int .i64 0, .int .i64 0] 23
        rw [World.size_alloc] at this
        exact this
      go_enter Try.func45, Try.ntmps45
      go_upto_region 2 with fail
      obtain ⟨W, hW⟩ : ∃ W, (w.alloc (.cells #[.int .i64 a, .int .i64 b, .int .i64 c, .int .i64 d] 58)).alloc (.cells #[.int .i64 0, .int .i64 0] 23) = W := ⟨_, rfl⟩
      have hX : Ext w W := hW ▸ ((Ext.refl w).alloc _).alloc _
      rw [hW] at W0X W0Z
      have q0X0 := W0X.cell 0 _ rfl
      have q0X1 := W0X.cell 1 _ rfl
      have q0X2 := W0X.cell 2 _ rfl
      have q0X3 := W0X.cell 3 _ rfl
      have q0Z0 := W0Z.cell 0 _ rfl
      have f0Z0 := W0Z.frozen 0
      have q0Z1 := W0Z.cell 1 _ rfl
      have f0Z1 := W0Z.frozen 1
      rw [hW]
      clear hW
      go_quiet (fail)
      have W1X := (W0X.drewN nq)
      have W1Z := (W0Z.drewN nq)
      have hX1 := (hX.drewN nq)
      clear q0X0 q0X1 q0X2 q0X3 q0Z0 q0Z1 f0Z0 f0Z1
      obtain ⟨V1, hV1⟩ : ∃ V, W.drewN nq = V := ⟨_, rfl⟩
      rw [hV1] at W1X W1Z hX1 ⊢
      clear hV1
      have q1X0 := W1X.cell 0 _ rfl
      have q1X1 := W1X.cell 1 _ rfl
      have q1X2 := W1X.cell 2 _ rfl
      have q1X3 := W1X.cell 3 _ rfl
      have q1Z0 := W1Z.cell 0 _ rfl
      have f1Z0 := W1Z.frozen 0
      have q1Z1 := W1Z.cell 1 _ rfl
      have f1Z1 := W1Z.frozen 1
      go_wp2_with fail
      refine (full_any _).mono ?_
      rintro e2 w2 ⟨rfl, hE2⟩
      have W2X := W1X.ext hE2
      have W2Z := W1Z.ext hE2
      have q2X0 := W2X.cell 0 _ rfl
      have q2X1 := W2X.cell 1 _ rfl
      have q2X2 := W2X.cell 2 _ rfl
      have q2X3 := W2X.cell 3 _ rfl
      have q2Z0 := W2Z.cell 0 _ rfl
      have f2Z0 := W2Z.frozen 0
      have q2Z1 := W2Z.cell 1 _ rfl
      have f2Z1 := W2Z.frozen 1
      go_wp2_with fail
      refine bodyPost_ret (v := .agg #[.int .i64 0, .int .i64 4294967295]) (by simp [results, Try.results45, go_sem, *]) rfl ⟨rfl, ?_⟩
      repeat' (first | exact Ext.refl _ | assumption | (with_reducible refine Ext.alloc ?_ _) | (with_reducible refine Ext.drew ?_) | (with_reducible refine Ext.drewN _ ?_) | (refine Ext.setCell ?_ (by first | exact Nat.le_refl _ | (simp; done) | (simp; omega) | omega) _) | (refine Ext.trans ?_ (by assumption)))
    · rw [show rulL 16 a b c d = a * 2 ^ (c % 32).toNat by unfold rulL; (repeat rw [if_neg (by decide)]); rw [if_pos rfl, if_neg (by rintro (h | h) <;> contradiction)], show rulH 16 a b c d = b * 2 ^ (c % 32).toNat by unfold rulH; (repeat rw [if_neg (by decide)]); rw [if_pos rfl, if_neg (by rintro (h | h) <;> contradiction)]]
      have k3 : (c != d) = false := by simp [k1]
      obtain ⟨y1, y2, y3, y4⟩ := shl_bd a b (c % 32).toNat h0 h1 (by omega) (by omega)
      clear k1
      have W0X : Blk ((w.alloc (.cells #[.int .i64 a, .int .i64 b, .int .i64 c, .int .i64 d] 58)).alloc (.cells #[.int .i64 0, .int .i64 0] 23)) w.heap.size 58 [.int .i64 a, .int .i64 b, .int .i64 c, .int .i64 d] := (Blk.new w _ _).alloc _
      have W0Z : Blk ((w.alloc (.cells #[.int .i64 a, .int .i64 b, .int .i64 c, .int .i64 d] 58)).alloc (.cells #[.int .i64 0, .int .i64 0] 23)) (w.heap.size + 1) 23 [.int .i64 0, .int .i64 0] := by
        have := Blk.new (w.alloc (.cells #[.int .i64 a, .int .i64 b, .int .i64 c, .int .i64 d] 58)) [.int .i64 0, .int .i64 0] 23
        rw [World.size_alloc] at this
        exact this
      go_enter Try.func45, Try.ntmps45
      go_upto_region 2 with fail
      obtain ⟨W, hW⟩ : ∃ W, (w.alloc (.cells #[.int .i64 a, .int .i64 b, .int .i64 c, .int .i64 d] 58)).alloc (.cells #[.int .i64 0, .int .i64 0] 23) = W := ⟨_, rfl⟩
      have hX : Ext w W := hW ▸ ((Ext.refl w).alloc _).alloc _
      rw [hW] at W0X W0Z
      have q0X0 := W0X.cell 0 _ rfl
      have q0X1 := W0X.cell 1 _ rfl
      have q0X2 := W0X.cell 2 _ rfl
      have q0X3 := W0X.cell 3 _ rfl
      have q0Z0 := W0Z.cell 0 _ rfl
      have f0Z0 := W0Z.frozen 0
      have q0Z1 := W0Z.cell 1 _ rfl
      have f0Z1 := W0Z.frozen 1
      rw [hW]
      clear hW
      go_quiet (fail)
      have W1X := (W0X.drewN nq)
      have W1Z := (W0Z.drewN nq)
      have hX1 := (hX.drewN nq)
      clear q0X0 q0X1 q0X2 q0X3 q0Z0 q0Z1 f0Z0 f0Z1
      obtain ⟨V1, hV1⟩ : ∃ V, W.drewN nq = V := ⟨_, rfl⟩
      rw [hV1] at W1X W1Z hX1 ⊢
      clear hV1
      have q1X0 := W1X.cell 0 _ rfl
      have q1X1 := W1X.cell 1 _ rfl
      have q1X2 := W1X.cell 2 _ rfl
      have q1X3 := W1X.cell 3 _ rfl
      have q1Z0 := W1Z.cell 0 _ rfl
      have f1Z0 := W1Z.frozen 0
      have q1Z1 := W1Z.cell 1 _ rfl
      have f1Z1 := W1Z.frozen 1
      go_upto_region 4 with fail
      go_still_tail 9, (by kernel_rfl)
      change wpList _ _ _ _ _ (World.drew V1)
      have W2X := W1X.drew
      have W2Z := W1Z.drew
      have hX2 := hX1.drew
      clear q1X0 q1X1 q1X2 q1X3 q1Z0 q1Z1 f1Z0 f1Z1
      obtain ⟨V2, hV2⟩ : ∃ V, V1.drew = V := ⟨_, rfl⟩
      rw [hV2] at W2X W2Z hX2 ⊢
      clear hV2
      have q2X0 := W2X.cell 0 _ rfl
      have q2X1 := W2X.cell 1 _ rfl
      have q2X2 := W2X.cell 2 _ rfl
      have q2X3 := W2X.cell 3 _ rfl
      have q2Z0 := W2Z.cell 0 _ rfl
      have f2Z0 := W2Z.frozen 0
      have q2Z1 := W2Z.cell 1 _ rfl
      have f2Z1 := W2Z.frozen 1
      go_wp2_with fail
      refine bodyPost_ret (v := .agg #[.int .i64 (a * 2 ^ (c % 32).toNat), .int .i64 (b * 2 ^ (c % 32).toNat)]) (by simp [results, Try.results45, go_sem, *]) rfl ⟨rfl, ?_⟩
      repeat' (first | exact Ext.refl _ | assumption | (with_reducible refine Ext.alloc ?_ _) | (with_reducible refine Ext.drew ?_) | (with_reducible refine Ext.drewN _ ?_) | (refine Ext.setCell ?_ (by first | exact Nat.le_refl _ | (simp; done) | (simp; omega) | omega) _) | (refine Ext.trans ?_ (by assumption)))
  · rw [show rulL 16 a b c d = 0 by unfold rulL; (repeat rw [if_neg (by decide)]); rw [if_pos rfl, if_pos (Or.inl k1)], show rulH 16 a b c d = 4294967295 by unfold rulH; (repeat rw [if_neg (by decide)]); rw [if_pos rfl, if_pos (Or.inl k1)]]
    have k3 : (c != d) = true := by simp [k1]
    clear k1
    have W0X : Blk ((w.alloc (.cells #[.int .i64 a, .int .i64 b, .int .i64 c, .int .i64 d] 58)).alloc (.cells #[.int .i64 0, .int .i64 0] 23)) w.heap.size 58 [.int .i64 a, .int .i64 b, .int .i64 c, .int .i64 d] := (Blk.new w _ _).alloc _
    have W0Z : Blk ((w.alloc (.cells #[.int .i64 a, .int .i64 b, .int .i64 c, .int .i64 d] 58)).alloc (.cells #[.int .i64 0, .int .i64 0] 23)) (w.heap.size + 1) 23 [.int .i64 0, .int .i64 0] := by
      have := Blk.new (w.alloc (.cells #[.int .i64 a, .int .i64 b, .int .i64 c, .int .i64 d] 58)) [.int .i64 0, .int .i64 0] 23
      rw [World.size_alloc] at this
      exact this
    go_enter Try.func45, Try.ntmps45
    go_upto_region 2 with fail
    obtain ⟨W, hW⟩ : ∃ W, (w.alloc (.cells #[.int .i64 a, .int .i64 b, .int .i64 c, .int .i64 d] 58)).alloc (.cells #[.int .i64 0, .int .i64 0] 23) = W := ⟨_, rfl⟩
    have hX : Ext w W := hW ▸ ((Ext.refl w).alloc _).alloc _
    rw [hW] at W0X W0Z
    have q0X0 := W0X.cell 0 _ rfl
    have q0X1 := W0X.cell 1 _ rfl
    have q0X2 := W0X.cell 2 _ rfl
    have q0X3 := W0X.cell 3 _ rfl
    have q0Z0 := W0Z.cell 0 _ rfl
    have f0Z0 := W0Z.frozen 0
    have q0Z1 := W0Z.cell 1 _ rfl
    have f0Z1 := W0Z.frozen 1
    rw [hW]
    clear hW
    go_quiet (fail)
    have W1X := (W0X.drewN nq)
    have W1Z := (W0Z.drewN nq)
    have hX1 := (hX.drewN nq)
    clear q0X0 q0X1 q0X2 q0X3 q0Z0 q0Z1 f0Z0 f0Z1
    obtain ⟨V1, hV1⟩ : ∃ V, W.drewN nq = V := ⟨_, rfl⟩
    rw [hV1] at W1X W1Z hX1 ⊢
    clear hV1
    have q1X0 := W1X.cell 0 _ rfl
    have q1X1 := W1X.cell 1 _ rfl
    have q1X2 := W1X.cell 2 _ rfl
    have q1X3 := W1X.cell 3 _ rfl
    have q1Z0 := W1Z.cell 0 _ rfl
    have f1Z0 := W1Z.frozen 0
    have q1Z1 := W1Z.cell 1 _ rfl
    have f1Z1 := W1Z.frozen 1
    go_wp2_with fail
    refine (full_any _).mono ?_
    rintro e2 w2 ⟨rfl, hE2⟩
    have W2X := W1X.ext hE2
    have W2Z := W1Z.ext hE2
    have q2X0 := W2X.cell 0 _ rfl
    have q2X1 := W2X.cell 1 _ rfl
    have q2X2 := W2X.cell 2 _ rfl
    have q2X3 := W2X.cell 3 _ rfl
    have q2Z0 := W2Z.cell 0 _ rfl
    have f2Z0 := W2Z.frozen 0
    have q2Z1 := W2Z.cell 1 _ rfl
    have f2Z1 := W2Z.frozen 1
    go_wp2_with fail
    refine bodyPost_ret (v := .agg #[.int .i64 0, .int .i64 4294967295]) (by simp [results, Try.results45, go_sem, *]) rfl ⟨rfl, ?_⟩
    repeat' (first | exact Ext.refl _ | assumption | (with_reducible refine Ext.alloc ?_ _) | (with_reducible refine Ext.drew ?_) | (with_reducible refine Ext.drewN _ ?_) | (refine Ext.setCell ?_ (by first | exact Nat.le_refl _ | (simp; done) | (simp; omega) | omega) _) | (refine Ext.trans ?_ (by assumption)))
set_option maxHeartbeats 1000000 in
theorem ror_any (a b c d : Int) (h0 : 0 ≤ a) (h1 : a ≤ b) (h2 : b ≤ 4294967295) (h3 : 0 ≤ c) (h4 : c ≤ d) (h5 : d ≤ 4294967295) (w : World) : Calls Try.prog 43 #[.agg #[.int .i64 a, .int .i64 b, .int .i64 c, .int .i64 d]] w fun x w' => x = .returned (.agg #[.int .i64 (rulL 14 a b c d), .int .i64 (rulH 14 a b c d)]) ∧ Ext w w' := by
  have hm0 : 0 ≤ max b d := by omega
  have hm1 : max b d ≤ 4294967295 := by omega
  rw [show rulL 14 a b c d = (max a c) by simp [rulL], show rulH 14 a b c d = ones (max b d) by simp [rulH]]
  obtain ⟨R, hR⟩ : ∃ R, ones (max b d) = R := ⟨_, rfl⟩
  have ho := ones_any (max b d) hm0 hm1
  rw [hR] at ho ⊢
  have ho := hidden ho
  clear hR
  have W0X : Blk ((w.alloc (.cells #[.int .i64 a, .int .i64 b, .int .i64 c, .int .i64 d] 58)).alloc (.cells #[.int .i64 0, .int .i64 0] 23)) w.heap.size 58 [.int .i64 a, .int .i64 b, .int .i64 c, .int .i64 d] := (Blk.new w _ _).alloc _
  have W0Z : Blk ((w.alloc (.cells #[.int .i64 a, .int .i64 b, .int .i64 c, .int .i64 d] 58)).alloc (.cells #[.int .i64 0, .int .i64 0] 23)) (w.heap.size + 1) 23 [.int .i64 0, .int .i64 0] := by
    have := Blk.new (w.alloc (.cells #[.int .i64 a, .int .i64 b, .int .i64 c, .int .i64 d] 58)) [.int .i64 0, .int .i64 0] 23
    rw [World.size_alloc] at this
    exact this
  go_enter Try.func43, Try.ntmps43
  go_upto_region 1 with fail
  obtain ⟨W, hW⟩ : ∃ W, (w.alloc (.cells #[.int .i64 a, .int .i64 b, .int .i64 c, .int .i64 d] 58)).alloc (.cells #[.int .i64 0, .int .i64 0] 23) = W := ⟨_, rfl⟩
  have hX : Ext w W := hW ▸ ((Ext.refl w).alloc _).alloc _
  rw [hW] at W0X W0Z
  have q0X0 := W0X.cell 0 _ rfl
  have q0X1 := W0X.cell 1 _ rfl
  have q0X2 := W0X.cell 2 _ rfl
  have q0X3 := W0X.cell 3 _ rfl
  have q0Z0 := W0Z.cell 0 _ rfl
  have f0Z0 := W0Z.frozen 0
  have q0Z1 := W0Z.cell 1 _ rfl
  have f0Z1 := W0Z.frozen 1
  rw [hW]
  clear hW
  refine wp_region_still_tail 12 (by kernel_rfl) (by kernel_rfl) ?_
  simp only [List.take_succ_cons, List.take_zero, List.drop_succ_cons, List.drop_zero]
  repeat still_step
  still_call ((ho.out _).mono fun _ _ h => ⟨h.1, h.2.symm⟩)
  repeat still_step
  refine wpStill_nil ?_
  change wpList _ _ _ _ _ W.drew
  have q1X0 := W0X.drew.cell 0 _ rfl
  have q1X1 := W0X.drew.cell 1 _ rfl
  have q1X2 := W0X.drew.cell 2 _ rfl
  have q1X3 := W0X.drew.cell 3 _ rfl
  have q1Z0 := W0Z.drew.cell 0 _ rfl
  have f1Z0 := W0Z.drew.frozen 0
  have q1Z1 := W0Z.drew.cell 1 _ rfl
  have f1Z1 := W0Z.drew.frozen 1
  clear q0X0 q0X1 q0X2 q0X3 q0Z0 q0Z1 f0Z0 f0Z1
  have hX2 := hX.drew
  obtain ⟨W2, hW2⟩ : ∃ W2, W.drew = W2 := ⟨_, rfl⟩
  rw [hW2] at hX2 q1X0 q1X1 q1X2 q1X3 q1Z0 q1Z1 f1Z0 f1Z1 ⊢
  clear hW2
  go_wp2_with fail
  refine bodyPost_ret (v := .agg #[.int .i64 (max a c), .int .i64 R]) (by simp [results, Try.results43, go_sem, *]) rfl ⟨rfl, ?_⟩
  repeat' (first | exact Ext.refl _ | assumption | (with_reducible refine Ext.alloc ?_ _) | (with_reducible refine Ext.drew ?_) | (with_reducible refine Ext.drewN _ ?_) | (refine Ext.setCell ?_ (by first | exact Nat.le_refl _ | (simp; done) | (simp; omega) | omega) _) | (refine Ext.trans ?_ (by assumption)))
set_option maxHeartbeats 1000000 in
theorem rxor_any (a b c d : Int) (h0 : 0 ≤ a) (h1 : a ≤ b) (h2 : b ≤ 4294967295) (h3 : 0 ≤ c) (h4 : c ≤ d) (h5 : d ≤ 4294967295) (w : World) : Calls Try.prog 44 #[.agg #[.int .i64 a, .int .i64 b, .int .i64 c, .int .i64 d]] w fun x w' => x = .returned (.agg #[.int .i64 (rulL 15 a b c d), .int .i64 (rulH 15 a b c d)]) ∧ Ext w w' := by
  have hm0 : 0 ≤ max b d := by omega
  have hm1 : max b d ≤ 4294967295 := by omega
  rw [show rulL 15 a b c d = 0 by simp [rulL], show rulH 15 a b c d = ones (max b d) by simp [rulH]]
  obtain ⟨R, hR⟩ : ∃ R, ones (max b d) = R := ⟨_, rfl⟩
  have ho := ones_any (max b d) hm0 hm1
  rw [hR] at ho ⊢
  have ho := hidden ho
  clear hR
  have W0X : Blk ((w.alloc (.cells #[.int .i64 a, .int .i64 b, .int .i64 c, .int .i64 d] 58)).alloc (.cells #[.int .i64 0, .int .i64 0] 23)) w.heap.size 58 [.int .i64 a, .int .i64 b, .int .i64 c, .int .i64 d] := (Blk.new w _ _).alloc _
  have W0Z : Blk ((w.alloc (.cells #[.int .i64 a, .int .i64 b, .int .i64 c, .int .i64 d] 58)).alloc (.cells #[.int .i64 0, .int .i64 0] 23)) (w.heap.size + 1) 23 [.int .i64 0, .int .i64 0] := by
    have := Blk.new (w.alloc (.cells #[.int .i64 a, .int .i64 b, .int .i64 c, .int .i64 d] 58)) [.int .i64 0, .int .i64 0] 23
    rw [World.size_alloc] at this
    exact this
  go_enter Try.func44, Try.ntmps44
  go_wp2_with fail
  refine (ho.out _).mono ?_
  rintro e w1 ⟨rfl, rfl⟩
  go_wp2_with fail
  refine bodyPost_ret (v := .agg #[.int .i64 0, .int .i64 R]) (by simp [results, Try.results44, go_sem, *]) rfl ⟨rfl, ?_⟩
  repeat' (first | exact Ext.refl _ | assumption | (with_reducible refine Ext.alloc ?_ _) | (with_reducible refine Ext.drew ?_) | (with_reducible refine Ext.drewN _ ?_) | (refine Ext.setCell ?_ (by first | exact Nat.le_refl _ | (simp; done) | (simp; omega) | omega) _) | (refine Ext.trans ?_ (by assumption)))
set_option maxHeartbeats 1000000 in
theorem rshr_any (a b c d : Int) (h0 : 0 ≤ a) (h1 : a ≤ b) (h2 : b ≤ 4294967295) (h3 : 0 ≤ c) (h4 : c ≤ d) (h5 : d ≤ 4294967295) (w : World) : Calls Try.prog 46 #[.agg #[.int .i64 a, .int .i64 b, .int .i64 c, .int .i64 d]] w fun x w' => x = .returned (.agg #[.int .i64 (rulL 17 a b c d), .int .i64 (rulH 17 a b c d)]) ∧ Ext w w' := by
  have z1 : 0 ≤ c % 32 := by omega
  have z2 : c % 32 < 32 := by omega
  by_cases k1 : d ≤ 31
  · rw [show rulL 17 a b c d = a / 2 ^ d.toNat by unfold rulL; (repeat rw [if_neg (by decide)]); rw [if_pos rfl, if_pos k1], show rulH 17 a b c d = b / 2 ^ c.toNat by unfold rulH; (repeat rw [if_neg (by decide)]); rw [if_pos rfl, if_pos k1]]
    have y1 : min d.toNat 64 = d.toNat := by omega
    have y2 : min c.toNat 64 = c.toNat := by omega
    have y3 : 0 ≤ d := by omega
    have W0X : Blk ((w.alloc (.cells #[.int .i64 a, .int .i64 b, .int .i64 c, .int .i64 d] 58)).alloc (.cells #[.int .i64 0, .int .i64 0] 23)) w.heap.size 58 [.int .i64 a, .int .i64 b, .int .i64 c, .int .i64 d] := (Blk.new w _ _).alloc _
    have W0Z : Blk ((w.alloc (.cells #[.int .i64 a, .int .i64 b, .int .i64 c, .int .i64 d] 58)).alloc (.cells #[.int .i64 0, .int .i64 0] 23)) (w.heap.size + 1) 23 [.int .i64 0, .int .i64 0] := by
      have := Blk.new (w.alloc (.cells #[.int .i64 a, .int .i64 b, .int .i64 c, .int .i64 d] 58)) [.int .i64 0, .int .i64 0] 23
      rw [World.size_alloc] at this
      exact this
    go_enter Try.func46, Try.ntmps46
    go_upto_region 2 with fail
    obtain ⟨W, hW⟩ : ∃ W, (w.alloc (.cells #[.int .i64 a, .int .i64 b, .int .i64 c, .int .i64 d] 58)).alloc (.cells #[.int .i64 0, .int .i64 0] 23) = W := ⟨_, rfl⟩
    have hX : Ext w W := hW ▸ ((Ext.refl w).alloc _).alloc _
    rw [hW] at W0X W0Z
    have q0X0 := W0X.cell 0 _ rfl
    have q0X1 := W0X.cell 1 _ rfl
    have q0X2 := W0X.cell 2 _ rfl
    have q0X3 := W0X.cell 3 _ rfl
    have q0Z0 := W0Z.cell 0 _ rfl
    have f0Z0 := W0Z.frozen 0
    have q0Z1 := W0Z.cell 1 _ rfl
    have f0Z1 := W0Z.frozen 1
    rw [hW]
    clear hW
    go_still_tail 11, (by kernel_rfl)
    change wpList _ _ _ _ _ W.drew
    have q1X0 := W0X.drew.cell 0 _ rfl
    have q1X1 := W0X.drew.cell 1 _ rfl
    have q1X2 := W0X.drew.cell 2 _ rfl
    have q1X3 := W0X.drew.cell 3 _ rfl
    have q1Z0 := W0Z.drew.cell 0 _ rfl
    have f1Z0 := W0Z.drew.frozen 0
    have q1Z1 := W0Z.drew.cell 1 _ rfl
    have f1Z1 := W0Z.drew.frozen 1
    clear q0X0 q0X1 q0X2 q0X3 q0Z0 q0Z1 f0Z0 f0Z1
    have hX2 := hX.drew
    obtain ⟨W2, hW2⟩ : ∃ W2, W.drew = W2 := ⟨_, rfl⟩
    rw [hW2] at hX2 q1X0 q1X1 q1X2 q1X3 q1Z0 q1Z1 f1Z0 f1Z1 ⊢
    clear hW2
    go_wp2_with fail
    refine bodyPost_ret (v := .agg #[.int .i64 (a / 2 ^ d.toNat), .int .i64 (b / 2 ^ c.toNat)]) (by simp [results, Try.results46, go_sem, *]) rfl ⟨rfl, ?_⟩
    repeat' (first | exact Ext.refl _ | assumption | (with_reducible refine Ext.alloc ?_ _) | (with_reducible refine Ext.drew ?_) | (with_reducible refine Ext.drewN _ ?_) | (refine Ext.setCell ?_ (by first | exact Nat.le_refl _ | (simp; done) | (simp; omega) | omega) _) | (refine Ext.trans ?_ (by assumption)))
  · by_cases k2 : c = d
    · rw [show rulL 17 a b c d = a / 2 ^ (c % 32).toNat by unfold rulL; (repeat rw [if_neg (by decide)]); rw [if_pos rfl, if_neg k1, if_pos k2], show rulH 17 a b c d = b / 2 ^ (c % 32).toNat by unfold rulH; (repeat rw [if_neg (by decide)]); rw [if_pos rfl, if_neg k1, if_pos k2]]
      have k3 : (c == d) = true := by simp [k2]
      have y1 : min (c % 32).toNat 64 = (c % 32).toNat := by omega
      have y2 : c.tmod 32 = c % 32 := Int.tmod_eq_emod_of_nonneg h3
      clear k2
      have W0X : Blk ((w.alloc (.cells #[.int .i64 a, .int .i64 b, .int .i64 c, .int .i64 d] 58)).alloc (.cells #[.int .i64 0, .int .i64 0] 23)) w.heap.size 58 [.int .i64 a, .int .i64 b, .int .i64 c, .int .i64 d] := (Blk.new w _ _).alloc _
      have W0Z : Blk ((w.alloc (.cells #[.int .i64 a, .int .i64 b, .int .i64 c, .int .i64 d] 58)).alloc (.cells #[.int .i64 0, .int .i64 0] 23)) (w.heap.size + 1) 23 [.int .i64 0, .int .i64 0] := by
        have := Blk.new (w.alloc (.cells #[.int .i64 a, .int .i64 b, .int .i64 c, .int .i64 d] 58)) [.int .i64 0, .int .i64 0] 23
        rw [World.size_alloc] at this
        exact this
      go_enter Try.func46, Try.ntmps46
      go_upto_region 4 with fail
      obtain ⟨W, hW⟩ : ∃ W, (w.alloc (.cells #[.int .i64 a, .int .i64 b, .int .i64 c, .int .i64 d] 58)).alloc (.cells #[.int .i64 0, .int .i64 0] 23) = W := ⟨_, rfl⟩
      have hX : Ext w W := hW ▸ ((Ext.refl w).alloc _).alloc _
      rw [hW] at W0X W0Z
      have q0X0 := W0X.cell 0 _ rfl
      have q0X1 := W0X.cell 1 _ rfl
      have q0X2 := W0X.cell 2 _ rfl
      have q0X3 := W0X.cell 3 _ rfl
      have q0Z0 := W0Z.cell 0 _ rfl
      have f0Z0 := W0Z.frozen 0
      have q0Z1 := W0Z.cell 1 _ rfl
      have f0Z1 := W0Z.frozen 1
      rw [hW]
      clear hW
      go_still_tail 13, (by kernel_rfl)
      change wpList _ _ _ _ _ W.drew
      have q1X0 := W0X.drew.cell 0 _ rfl
      have q1X1 := W0X.drew.cell 1 _ rfl
      have q1X2 := W0X.drew.cell 2 _ rfl
      have q1X3 := W0X.drew.cell 3 _ rfl
      have q1Z0 := W0Z.drew.cell 0 _ rfl
      have f1Z0 := W0Z.drew.frozen 0
      have q1Z1 := W0Z.drew.cell 1 _ rfl
      have f1Z1 := W0Z.drew.frozen 1
      clear q0X0 q0X1 q0X2 q0X3 q0Z0 q0Z1 f0Z0 f0Z1
      have hX2 := hX.drew
      obtain ⟨W2, hW2⟩ : ∃ W2, W.drew = W2 := ⟨_, rfl⟩
      rw [hW2] at hX2 q1X0 q1X1 q1X2 q1X3 q1Z0 q1Z1 f1Z0 f1Z1 ⊢
      clear hW2
      go_wp2_with fail
      refine bodyPost_ret (v := .agg #[.int .i64 (a / 2 ^ (c % 32).toNat), .int .i64 (b / 2 ^ (c % 32).toNat)]) (by simp [results, Try.results46, go_sem, *]) rfl ⟨rfl, ?_⟩
      repeat' (first | exact Ext.refl _ | assumption | (with_reducible refine Ext.alloc ?_ _) | (with_reducible refine Ext.drew ?_) | (with_reducible refine Ext.drewN _ ?_) | (refine Ext.setCell ?_ (by first | exact Nat.le_refl _ | (simp; done) | (simp; omega) | omega) _) | (refine Ext.trans ?_ (by assumption)))
    · rw [show rulL 17 a b c d = 0 by unfold rulL; (repeat rw [if_neg (by decide)]); rw [if_pos rfl, if_neg k1, if_neg k2], show rulH 17 a b c d = b by unfold rulH; (repeat rw [if_neg (by decide)]); rw [if_pos rfl, if_neg k1, if_neg k2]]
      have k3 : (c == d) = false := by simp [k2]
      clear k2
      go_enter Try.func46, Try.ntmps46
      go_wp2_with fail
      refine bodyPost_ret (v := .agg #[.int .i64 0, .int .i64 b]) (by simp [results, Try.results46, go_sem, *]) rfl ⟨rfl, ?_⟩
      repeat' (first | exact Ext.refl _ | assumption | (with_reducible refine Ext.alloc ?_ _) | (with_reducible refine Ext.drew ?_) | (with_reducible refine Ext.drewN _ ?_) | (refine Ext.setCell ?_ (by first | exact Nat.le_refl _ | (simp; done) | (simp; omega) | omega) _) | (refine Ext.trans ?_ (by assumption)))
theorem mul_bd (a b c d : Int) (h0 : 0 ≤ a) (h1 : a ≤ b) (h3 : 0 ≤ c) (h4 : c ≤ d) (k1 : 0 < d) (k2 : ¬ 4294967295 / d < b) :
    0 ≤ a * c ∧ a * c ≤ 4294967295 ∧ 0 ≤ b * d ∧ b * d ≤ 4294967295 := by
  have hb : b * d ≤ 4294967295 := Int.le_trans (Int.mul_le_mul_of_nonneg_right (by omega) (by omega)) (Int.ediv_mul_le _ (by omega))
  have hab : a * c ≤ b * c := Int.mul_le_mul_of_nonneg_right h1 (by omega)
  have hbc : b * c ≤ b * d := Int.mul_le_mul_of_nonneg_left h4 (by omega)
  have ha : 0 ≤ a * c := Int.mul_nonneg h0 (by omega)
  omega
set_option maxHeartbeats 1000000 in
theorem rmul_any (a b c d : Int) (h0 : 0 ≤ a) (h1 : a ≤ b) (h2 : b ≤ 4294967295) (h3 : 0 ≤ c) (h4 : c ≤ d) (h5 : d ≤ 4294967295) (w : World) : Calls Try.prog 39 #[.agg #[.int .i64 a, .int .i64 b, .int .i64 c, .int .i64 d]] w fun x w' => x = .returned (.agg #[.int .i64 (rulL 10 a b c d), .int .i64 (rulH 10 a b c d)]) ∧ Ext w w' := by
  by_cases k1 : 0 < d
  · by_cases k2 : 4294967295 / d < b
    · rw [show rulL 10 a b c d = 0 by unfold rulL; (repeat rw [if_neg (by decide)]); rw [if_pos rfl, if_pos ⟨k1, k2⟩], show rulH 10 a b c d = 4294967295 by unfold rulH; (repeat rw [if_neg (by decide)]); rw [if_pos rfl, if_pos ⟨k1, k2⟩]]
      have y1 : IntKind.i64.wrap (Int.tdiv 4294967295 d) = 4294967295 / d := IntWalk.i64_quo _ _ (by omega)
      have z1 : ¬ d = 0 := by omega
      have W0X : Blk ((w.alloc (.cells #[.int .i64 a, .int .i64 b, .int .i64 c, .int .i64 d] 58)).alloc (.cells #[.int .i64 0, .int .i64 0] 23)) w.heap.size 58 [.int .i64 a, .int .i64 b, .int .i64 c, .int .i64 d] := (Blk.new w _ _).alloc _
      have W0Z : Blk ((w.alloc (.cells #[.int .i64 a, .int .i64 b, .int .i64 c, .int .i64 d] 58)).alloc (.cells #[.int .i64 0, .int .i64 0] 23)) (w.heap.size + 1) 23 [.int .i64 0, .int .i64 0] := by
        have := Blk.new (w.alloc (.cells #[.int .i64 a, .int .i64 b, .int .i64 c, .int .i64 d] 58)) [.int .i64 0, .int .i64 0] 23
        rw [World.size_alloc] at this
        exact this
      go_enter Try.func39, Try.ntmps39
      go_upto_region 1 with fail
      obtain ⟨W, hW⟩ : ∃ W, (w.alloc (.cells #[.int .i64 a, .int .i64 b, .int .i64 c, .int .i64 d] 58)).alloc (.cells #[.int .i64 0, .int .i64 0] 23) = W := ⟨_, rfl⟩
      have hX : Ext w W := hW ▸ ((Ext.refl w).alloc _).alloc _
      rw [hW] at W0X W0Z
      have q0X0 := W0X.cell 0 _ rfl
      have q0X1 := W0X.cell 1 _ rfl
      have q0X2 := W0X.cell 2 _ rfl
      have q0X3 := W0X.cell 3 _ rfl
      have q0Z0 := W0Z.cell 0 _ rfl
      have f0Z0 := W0Z.frozen 0
      have q0Z1 := W0Z.cell 1 _ rfl
      have f0Z1 := W0Z.frozen 1
      rw [hW]
      clear hW
      go_quiet (fail)
      have W1X := (W0X.drewN nq)
      have W1Z := (W0Z.drewN nq)
      have hX1 := (hX.drewN nq)
      clear q0X0 q0X1 q0X2 q0X3 q0Z0 q0Z1 f0Z0 f0Z1
      obtain ⟨V1, hV1⟩ : ∃ V, W.drewN nq = V := ⟨_, rfl⟩
      rw [hV1] at W1X W1Z hX1 ⊢
      clear hV1
      have q1X0 := W1X.cell 0 _ rfl
      have q1X1 := W1X.cell 1 _ rfl
      have q1X2 := W1X.cell 2 _ rfl
      have q1X3 := W1X.cell 3 _ rfl
      have q1Z0 := W1Z.cell 0 _ rfl
      have f1Z0 := W1Z.frozen 0
      have q1Z1 := W1Z.cell 1 _ rfl
      have f1Z1 := W1Z.frozen 1
      go_wp2_with fail
      refine (full_any _).mono ?_
      rintro e2 w2 ⟨rfl, hE2⟩
      have W2X := W1X.ext hE2
      have W2Z := W1Z.ext hE2
      have q2X0 := W2X.cell 0 _ rfl
      have q2X1 := W2X.cell 1 _ rfl
      have q2X2 := W2X.cell 2 _ rfl
      have q2X3 := W2X.cell 3 _ rfl
      have q2Z0 := W2Z.cell 0 _ rfl
      have f2Z0 := W2Z.frozen 0
      have q2Z1 := W2Z.cell 1 _ rfl
      have f2Z1 := W2Z.frozen 1
      go_wp2_with fail
      refine bodyPost_ret (v := .agg #[.int .i64 0, .int .i64 4294967295]) (by simp [results, Try.results39, go_sem, *]) rfl ⟨rfl, ?_⟩
      repeat' (first | exact Ext.refl _ | assumption | (with_reducible refine Ext.alloc ?_ _) | (with_reducible refine Ext.drew ?_) | (with_reducible refine Ext.drewN _ ?_) | (refine Ext.setCell ?_ (by first | exact Nat.le_refl _ | (simp; done) | (simp; omega) | omega) _) | (refine Ext.trans ?_ (by assumption)))
    · rw [show rulL 10 a b c d = a * c by unfold rulL; (repeat rw [if_neg (by decide)]); rw [if_pos rfl, if_neg (by rintro ⟨_, h⟩; exact k2 h)], show rulH 10 a b c d = b * d by unfold rulH; (repeat rw [if_neg (by decide)]); rw [if_pos rfl, if_neg (by rintro ⟨_, h⟩; exact k2 h)]]
      have y1 : IntKind.i64.wrap (Int.tdiv 4294967295 d) = 4294967295 / d := IntWalk.i64_quo _ _ (by omega)
      have z1 : ¬ d = 0 := by omega
      obtain ⟨y3, y4, y5, y6⟩ := mul_bd a b c d h0 h1 h3 h4 k1 k2
      have W0X : Blk ((w.alloc (.cells #[.int .i64 a, .int .i64 b, .int .i64 c, .int .i64 d] 58)).alloc (.cells #[.int .i64 0, .int .i64 0] 23)) w.heap.size 58 [.int .i64 a, .int .i64 b, .int .i64 c, .int .i64 d] := (Blk.new w _ _).alloc _
      have W0Z : Blk ((w.alloc (.cells #[.int .i64 a, .int .i64 b, .int .i64 c, .int .i64 d] 58)).alloc (.cells #[.int .i64 0, .int .i64 0] 23)) (w.heap.size + 1) 23 [.int .i64 0, .int .i64 0] := by
        have := Blk.new (w.alloc (.cells #[.int .i64 a, .int .i64 b, .int .i64 c, .int .i64 d] 58)) [.int .i64 0, .int .i64 0] 23
        rw [World.size_alloc] at this
        exact this
      go_enter Try.func39, Try.ntmps39
      go_upto_region 1 with fail
      obtain ⟨W, hW⟩ : ∃ W, (w.alloc (.cells #[.int .i64 a, .int .i64 b, .int .i64 c, .int .i64 d] 58)).alloc (.cells #[.int .i64 0, .int .i64 0] 23) = W := ⟨_, rfl⟩
      have hX : Ext w W := hW ▸ ((Ext.refl w).alloc _).alloc _
      rw [hW] at W0X W0Z
      have q0X0 := W0X.cell 0 _ rfl
      have q0X1 := W0X.cell 1 _ rfl
      have q0X2 := W0X.cell 2 _ rfl
      have q0X3 := W0X.cell 3 _ rfl
      have q0Z0 := W0Z.cell 0 _ rfl
      have f0Z0 := W0Z.frozen 0
      have q0Z1 := W0Z.cell 1 _ rfl
      have f0Z1 := W0Z.frozen 1
      rw [hW]
      clear hW
      go_quiet (fail)
      have W1X := (W0X.drewN nq)
      have W1Z := (W0Z.drewN nq)
      have hX1 := (hX.drewN nq)
      clear q0X0 q0X1 q0X2 q0X3 q0Z0 q0Z1 f0Z0 f0Z1
      obtain ⟨V1, hV1⟩ : ∃ V, W.drewN nq = V := ⟨_, rfl⟩
      rw [hV1] at W1X W1Z hX1 ⊢
      clear hV1
      have q1X0 := W1X.cell 0 _ rfl
      have q1X1 := W1X.cell 1 _ rfl
      have q1X2 := W1X.cell 2 _ rfl
      have q1X3 := W1X.cell 3 _ rfl
      have q1Z0 := W1Z.cell 0 _ rfl
      have f1Z0 := W1Z.frozen 0
      have q1Z1 := W1Z.cell 1 _ rfl
      have f1Z1 := W1Z.frozen 1
      go_wp2_with fail
      refine bodyPost_ret (v := .agg #[.int .i64 (a * c), .int .i64 (b * d)]) (by simp [results, Try.results39, go_sem, *]) rfl ⟨rfl, ?_⟩
      repeat' (first | exact Ext.refl _ | assumption | (with_reducible refine Ext.alloc ?_ _) | (with_reducible refine Ext.drew ?_) | (with_reducible refine Ext.drewN _ ?_) | (refine Ext.setCell ?_ (by first | exact Nat.le_refl _ | (simp; done) | (simp; omega) | omega) _) | (refine Ext.trans ?_ (by assumption)))
  · obtain rfl : d = 0 := by omega
    obtain rfl : c = 0 := by omega
    rw [show rulL 10 a b 0 0 = 0 by unfold rulL; (repeat rw [if_neg (by decide)]); rw [if_pos rfl, if_neg (by omega), Int.mul_zero], show rulH 10 a b 0 0 = 0 by unfold rulH; (repeat rw [if_neg (by decide)]); rw [if_pos rfl, if_neg (by omega), Int.mul_zero]]
    have z1 : decide ((0 : Int) < 0) = false := by simp
    have W0X : Blk ((w.alloc (.cells #[.int .i64 a, .int .i64 b, .int .i64 0, .int .i64 0] 58)).alloc (.cells #[.int .i64 0, .int .i64 0] 23)) w.heap.size 58 [.int .i64 a, .int .i64 b, .int .i64 0, .int .i64 0] := (Blk.new w _ _).alloc _
    have W0Z : Blk ((w.alloc (.cells #[.int .i64 a, .int .i64 b, .int .i64 0, .int .i64 0] 58)).alloc (.cells #[.int .i64 0, .int .i64 0] 23)) (w.heap.size + 1) 23 [.int .i64 0, .int .i64 0] := by
      have := Blk.new (w.alloc (.cells #[.int .i64 a, .int .i64 b, .int .i64 0, .int .i64 0] 58)) [.int .i64 0, .int .i64 0] 23
      rw [World.size_alloc] at this
      exact this
    go_enter Try.func39, Try.ntmps39
    go_upto_region 1 with fail
    obtain ⟨W, hW⟩ : ∃ W, (w.alloc (.cells #[.int .i64 a, .int .i64 b, .int .i64 0, .int .i64 0] 58)).alloc (.cells #[.int .i64 0, .int .i64 0] 23) = W := ⟨_, rfl⟩
    have hX : Ext w W := hW ▸ ((Ext.refl w).alloc _).alloc _
    rw [hW] at W0X W0Z
    have q0X0 := W0X.cell 0 _ rfl
    have q0X1 := W0X.cell 1 _ rfl
    have q0X2 := W0X.cell 2 _ rfl
    have q0X3 := W0X.cell 3 _ rfl
    have q0Z0 := W0Z.cell 0 _ rfl
    have f0Z0 := W0Z.frozen 0
    have q0Z1 := W0Z.cell 1 _ rfl
    have f0Z1 := W0Z.frozen 1
    rw [hW]
    clear hW
    go_quiet (fail)
    have W1X := (W0X.drewN nq)
    have W1Z := (W0Z.drewN nq)
    have hX1 := (hX.drewN nq)
    clear q0X0 q0X1 q0X2 q0X3 q0Z0 q0Z1 f0Z0 f0Z1
    obtain ⟨V1, hV1⟩ : ∃ V, W.drewN nq = V := ⟨_, rfl⟩
    rw [hV1] at W1X W1Z hX1 ⊢
    clear hV1
    have q1X0 := W1X.cell 0 _ rfl
    have q1X1 := W1X.cell 1 _ rfl
    have q1X2 := W1X.cell 2 _ rfl
    have q1X3 := W1X.cell 3 _ rfl
    have q1Z0 := W1Z.cell 0 _ rfl
    have f1Z0 := W1Z.frozen 0
    have q1Z1 := W1Z.cell 1 _ rfl
    have f1Z1 := W1Z.frozen 1
    go_wp2_with fail
    refine bodyPost_ret (v := .agg #[.int .i64 0, .int .i64 0]) (by simp [results, Try.results39, go_sem, *]) rfl ⟨rfl, ?_⟩
    repeat' (first | exact Ext.refl _ | assumption | (with_reducible refine Ext.alloc ?_ _) | (with_reducible refine Ext.drew ?_) | (with_reducible refine Ext.drewN _ ?_) | (refine Ext.setCell ?_ (by first | exact Nat.le_refl _ | (simp; done) | (simp; omega) | omega) _) | (refine Ext.trans ?_ (by assumption)))
end Go.Proofs.Ytbpnagamcohlnaa
