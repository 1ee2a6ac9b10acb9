/- The reference's apply, operation by operation. -/
import Derived.Test.YtbpnagamcohlnaaIv
import Derived.StillTailTactics
import Derived.Deep.CutRange
import Derived.Deep.DeepCutAuto
namespace Go.Proofs.Ytbpnagamcohlnaa
open Go.RowKit
set_option linter.unusedVariables false


theorem rulL_8 (a b c d : Int) : rulL 8 a b c d = shL (a + c) (b + d) := by unfold rulL; (repeat rw [if_neg (by decide)]); rw [if_pos rfl]
theorem rulH_8 (a b c d : Int) : rulH 8 a b c d = shH (a + c) (b + d) := by unfold rulH; (repeat rw [if_neg (by decide)]); rw [if_pos rfl]
theorem rulL_9 (a b c d : Int) : rulL 9 a b c d = shL (a - d) (b - c) := by unfold rulL; (repeat rw [if_neg (by decide)]); rw [if_pos rfl]
theorem rulH_9 (a b c d : Int) : rulH 9 a b c d = shH (a - d) (b - c) := by unfold rulH; (repeat rw [if_neg (by decide)]); rw [if_pos rfl]
theorem rulL_10 (a b c d : Int) : rulL 10 a b c d = if 0 < d ∧ 4294967295 / d < b then 0 else a * c := by unfold rulL; (repeat rw [if_neg (by decide)]); rw [if_pos rfl]
theorem rulH_10 (a b c d : Int) : rulH 10 a b c d = if 0 < d ∧ 4294967295 / d < b then 4294967295 else b * d := by unfold rulH; (repeat rw [if_neg (by decide)]); rw [if_pos rfl]
theorem rulL_11 (a b c d : Int) : rulL 11 a b c d = a / d := by unfold rulL; (repeat rw [if_neg (by decide)]); rw [if_pos rfl]
theorem rulH_11 (a b c d : Int) : rulH 11 a b c d = b / c := by unfold rulH; (repeat rw [if_neg (by decide)]); rw [if_pos rfl]
theorem rulL_12 (a b c d : Int) : rulL 12 a b c d = if b < c then a else 0 := by unfold rulL; (repeat rw [if_neg (by decide)]); rw [if_pos rfl]
theorem rulH_12 (a b c d : Int) : rulH 12 a b c d = if b < c then b else min b (d - 1) := by unfold rulH; (repeat rw [if_neg (by decide)]); rw [if_pos rfl]
theorem rulL_13 (a b c d : Int) : rulL 13 a b c d = 0 := by unfold rulL; (repeat rw [if_neg (by decide)])
theorem rulH_13 (a b c d : Int) : rulH 13 a b c d = min b d := by unfold rulH; (repeat rw [if_neg (by decide)]); rw [if_pos rfl]
theorem rulL_14 (a b c d : Int) : rulL 14 a b c d = max a c := by unfold rulL; (repeat rw [if_neg (by decide)]); rw [if_pos rfl]
theorem rulH_14 (a b c d : Int) : rulH 14 a b c d = ones (max b d) := by unfold rulH; (repeat rw [if_neg (by decide)]); rw [if_pos rfl]
theorem rulL_15 (a b c d : Int) : rulL 15 a b c d = 0 := by unfold rulL; (repeat rw [if_neg (by decide)])
theorem rulH_15 (a b c d : Int) : rulH 15 a b c d = ones (max b d) := by unfold rulH; (repeat rw [if_neg (by decide)]); rw [if_pos rfl]
theorem rulL_16 (a b c d : Int) : rulL 16 a b c d = if c ≠ d ∨ 4294967295 / 2 ^ (c % 32).toNat < b then 0 else a * 2 ^ (c % 32).toNat := by unfold rulL; (repeat rw [if_neg (by decide)]); rw [if_pos rfl]
theorem rulH_16 (a b c d : Int) : rulH 16 a b c d = if c ≠ d ∨ 4294967295 / 2 ^ (c % 32).toNat < b then 4294967295 else b * 2 ^ (c % 32).toNat := by unfold rulH; (repeat rw [if_neg (by decide)]); rw [if_pos rfl]
theorem rulL_17 (a b c d : Int) : rulL 17 a b c d = if d ≤ 31 then a / 2 ^ d.toNat else if c = d then a / 2 ^ (c % 32).toNat else 0 := by unfold rulL; (repeat rw [if_neg (by decide)]); rw [if_pos rfl]
theorem rulH_17 (a b c d : Int) : rulH 17 a b c d = if d ≤ 31 then b / 2 ^ c.toNat else if c = d then b / 2 ^ (c % 32).toNat else b := by unfold rulH; (repeat rw [if_neg (by decide)]); rw [if_pos rfl]
theorem rulL_18 (a b c d : Int) : rulL 18 a b c d = min a c := by unfold rulL; (repeat rw [if_neg (by decide)]); rw [if_pos rfl]
theorem rulH_18 (a b c d : Int) : rulH 18 a b c d = min b d := by unfold rulH; (repeat rw [if_neg (by decide)]); rw [if_pos rfl]
theorem rulL_19 (a b c d : Int) : rulL 19 a b c d = max a c := by unfold rulL; (repeat rw [if_neg (by decide)]); rw [if_pos rfl]
theorem rulH_19 (a b c d : Int) : rulH 19 a b c d = max b d := by unfold rulH; (repeat rw [if_neg (by decide)]); rw [if_pos rfl]
theorem rulL_20 (a b c d : Int) : rulL 20 a b c d = 0 := by unfold rulL; (repeat rw [if_neg (by decide)])
theorem rulH_20 (a b c d : Int) : rulH 20 a b c d = 4294967295 := by unfold rulH; (repeat rw [if_neg (by decide)])
set_option maxHeartbeats 2000000 in
set_option maxRecDepth 100000 in
theorem rx8 (a b c d : Int) (h0 : 0 ≤ a) (h1 : a ≤ b) (h2 : b ≤ 4294967295) (h3 : 0 ≤ c) (h4 : c ≤ d) (h5 : d ≤ 4294967295) (w : World) : Calls Try.prog 32 #[.int .i64 8, .int .i64 a, .int .i64 b, .agg #[.int .i64 c, .int .i64 d]] w fun x w' => x = .returned (.agg #[.int .i64 (rulL 8 a b c d), .int .i64 (rulH 8 a b c d)]) ∧ Ext w w' := by
  by_cases k : 4294967295 < a + c
  · have hp := hidden (show btL (a + c - 4294967295 - 1) (b + d - 4294967295 - 1) = rulL 8 a b c d ∧ btH (a + c - 4294967295 - 1) (b + d - 4294967295 - 1) = rulH 8 a b c d from by constructor <;> (first | rw [rulL_8] | rw [rulH_8]) <;> (try unfold btL) <;> (try unfold btH) <;> (try unfold shL) <;> (try unfold shH) <;> (repeat' split) <;> omega)
    have W0Y : Blk ((w.alloc (.cells #[.int .i64 c, .int .i64 d] 23)).alloc (.cells #[.int .i64 0, .int .i64 0] 23)) w.heap.size 23 [.int .i64 c, .int .i64 d] := (Blk.new w _ _).alloc _
    have W0Z : Blk ((w.alloc (.cells #[.int .i64 c, .int .i64 d] 23)).alloc (.cells #[.int .i64 0, .int .i64 0] 23)) (w.heap.size + 1) 23 [.int .i64 0, .int .i64 0] := by
      have := Blk.new (w.alloc (.cells #[.int .i64 c, .int .i64 d] 23)) [.int .i64 0, .int .i64 0] 23
      rw [World.size_alloc] at this
      exact this
    have hE0 : Ext w ((w.alloc (.cells #[.int .i64 c, .int .i64 d] 23)).alloc (.cells #[.int .i64 0, .int .i64 0] 23)) := ((Ext.refl w).alloc _).alloc _
    obtain ⟨V0, hV0⟩ : ∃ V, (w.alloc (.cells #[.int .i64 c, .int .i64 d] 23)).alloc (.cells #[.int .i64 0, .int .i64 0] 23) = V := ⟨_, rfl⟩
    go_enter Try.func32, Try.ntmps32
    go_upto_region 1 with fail
    rw [hV0] at W0Y W0Z hE0
    clear hV0
    have qY0 := W0Y.cell 0 _ rfl
    have qY1 := W0Y.cell 1 _ rfl
    have qZ0 := W0Z.cell 0 _ rfl
    have qZ1 := W0Z.cell 1 _ rfl
    have fZ0 := W0Z.frozen 0
    have fZ1 := W0Z.frozen 1
    go_quiet (fail)
    have W1Y := W0Y.drewN nq
    have W1Z := W0Z.drewN nq
    have hE1 := hE0.drewN nq
    obtain ⟨V1, hV1⟩ : ∃ V, V0.drewN nq = V := ⟨_, rfl⟩
    rw [hV1] at W1Y W1Z hE1 ⊢
    clear hV1 W0Y W0Z hE0
    clear qY0 qY1 qZ0 qZ1 fZ0 fZ1
    have qY0 := W1Y.cell 0 _ rfl
    have qY1 := W1Y.cell 1 _ rfl
    have qZ0 := W1Z.cell 0 _ rfl
    have qZ1 := W1Z.cell 1 _ rfl
    have fZ0 := W1Z.frozen 0
    have fZ1 := W1Z.frozen 1
    go_wp2_with fail
    refine (between_any (a + c - 4294967295 - 1) (b + d - 4294967295 - 1) _).mono ?_
    rintro e2 V2 ⟨rfl, g2⟩
    have W2Y := W1Y.ext g2
    have W2Z := W1Z.ext g2
    have hE2 := hE1.trans g2
    clear W1Y W1Z hE1 g2
    clear qY0 qY1 qZ0 qZ1 fZ0 fZ1
    have qY0 := W2Y.cell 0 _ rfl
    have qY1 := W2Y.cell 1 _ rfl
    have qZ0 := W2Z.cell 0 _ rfl
    have qZ1 := W2Z.cell 1 _ rfl
    have fZ0 := W2Z.frozen 0
    have fZ1 := W2Z.frozen 1
    go_wp2_with fail
    refine bodyPost_ret (v := .agg #[_, _]) (by simp [results, Try.results32, go_sem, *]; exact ⟨rfl, rfl⟩) rfl ⟨?_, ?_⟩
    · exact ret_iv hp.out.1 hp.out.2
    repeat' (first | exact Ext.refl _ | assumption | (with_reducible refine Ext.alloc ?_ _) | (with_reducible refine Ext.drew ?_) | (with_reducible refine Ext.drewN _ ?_) | (refine Ext.setCell ?_ (by first | exact Nat.le_refl _ | (simp; done) | (simp; omega) | omega) _) | (refine Ext.trans ?_ (by assumption)))
  · have hp := hidden (show btL (a + c) (b + d) = rulL 8 a b c d ∧ btH (a + c) (b + d) = rulH 8 a b c d from by constructor <;> (first | rw [rulL_8] | rw [rulH_8]) <;> (try unfold btL) <;> (try unfold btH) <;> (try unfold shL) <;> (try unfold shH) <;> (repeat' split) <;> omega)
    have W0Y : Blk ((w.alloc (.cells #[.int .i64 c, .int .i64 d] 23)).alloc (.cells #[.int .i64 0, .int .i64 0] 23)) w.heap.size 23 [.int .i64 c, .int .i64 d] := (Blk.new w _ _).alloc _
    have W0Z : Blk ((w.alloc (.cells #[.int .i64 c, .int .i64 d] 23)).alloc (.cells #[.int .i64 0, .int .i64 0] 23)) (w.heap.size + 1) 23 [.int .i64 0, .int .i64 0] := by
      have := Blk.new (w.alloc (.cells #[.int .i64 c, .int .i64 d] 23)) [.int .i64 0, .int .i64 0] 23
      rw [World.size_alloc] at this
      exact this
    have hE0 : Ext w ((w.alloc (.cells #[.int .i64 c, .int .i64 d] 23)).alloc (.cells #[.int .i64 0, .int .i64 0] 23)) := ((Ext.refl w).alloc _).alloc _
    obtain ⟨V0, hV0⟩ : ∃ V, (w.alloc (.cells #[.int .i64 c, .int .i64 d] 23)).alloc (.cells #[.int .i64 0, .int .i64 0] 23) = V := ⟨_, rfl⟩
    go_enter Try.func32, Try.ntmps32
    go_upto_region 1 with fail
    rw [hV0] at W0Y W0Z hE0
    clear hV0
    have qY0 := W0Y.cell 0 _ rfl
    have qY1 := W0Y.cell 1 _ rfl
    have qZ0 := W0Z.cell 0 _ rfl
    have qZ1 := W0Z.cell 1 _ rfl
    have fZ0 := W0Z.frozen 0
    have fZ1 := W0Z.frozen 1
    go_quiet (fail)
    have W1Y := W0Y.drewN nq
    have W1Z := W0Z.drewN nq
    have hE1 := hE0.drewN nq
    obtain ⟨V1, hV1⟩ : ∃ V, V0.drewN nq = V := ⟨_, rfl⟩
    rw [hV1] at W1Y W1Z hE1 ⊢
    clear hV1 W0Y W0Z hE0
    clear qY0 qY1 qZ0 qZ1 fZ0 fZ1
    have qY0 := W1Y.cell 0 _ rfl
    have qY1 := W1Y.cell 1 _ rfl
    have qZ0 := W1Z.cell 0 _ rfl
    have qZ1 := W1Z.cell 1 _ rfl
    have fZ0 := W1Z.frozen 0
    have fZ1 := W1Z.frozen 1
    go_wp2_with fail
    refine (between_any (a + c) (b + d) _).mono ?_
    rintro e2 V2 ⟨rfl, g2⟩
    have W2Y := W1Y.ext g2
    have W2Z := W1Z.ext g2
    have hE2 := hE1.trans g2
    clear W1Y W1Z hE1 g2
    clear qY0 qY1 qZ0 qZ1 fZ0 fZ1
    have qY0 := W2Y.cell 0 _ rfl
    have qY1 := W2Y.cell 1 _ rfl
    have qZ0 := W2Z.cell 0 _ rfl
    have qZ1 := W2Z.cell 1 _ rfl
    have fZ0 := W2Z.frozen 0
    have fZ1 := W2Z.frozen 1
    go_wp2_with fail
    refine bodyPost_ret (v := .agg #[_, _]) (by simp [results, Try.results32, go_sem, *]; exact ⟨rfl, rfl⟩) rfl ⟨?_, ?_⟩
    · exact ret_iv hp.out.1 hp.out.2
    repeat' (first | exact Ext.refl _ | assumption | (with_reducible refine Ext.alloc ?_ _) | (with_reducible refine Ext.drew ?_) | (with_reducible refine Ext.drewN _ ?_) | (refine Ext.setCell ?_ (by first | exact Nat.le_refl _ | (simp; done) | (simp; omega) | omega) _) | (refine Ext.trans ?_ (by assumption)))
set_option maxHeartbeats 2000000 in
set_option maxRecDepth 100000 in
theorem rx9 (a b c d : Int) (h0 : 0 ≤ a) (h1 : a ≤ b) (h2 : b ≤ 4294967295) (h3 : 0 ≤ c) (h4 : c ≤ d) (h5 : d ≤ 4294967295) (w : World) : Calls Try.prog 32 #[.int .i64 9, .int .i64 a, .int .i64 b, .agg #[.int .i64 c, .int .i64 d]] w fun x w' => x = .returned (.agg #[.int .i64 (rulL 9 a b c d), .int .i64 (rulH 9 a b c d)]) ∧ Ext w w' := by
  by_cases k : b - c < 0
  · have hp := hidden (show btL (a - d + 4294967295 + 1) (b - c + 4294967295 + 1) = rulL 9 a b c d ∧ btH (a - d + 4294967295 + 1) (b - c + 4294967295 + 1) = rulH 9 a b c d from by constructor <;> (first | rw [rulL_9] | rw [rulH_9]) <;> (try unfold btL) <;> (try unfold btH) <;> (try unfold shL) <;> (try unfold shH) <;> (repeat' split) <;> omega)
    have W0Y : Blk ((w.alloc (.cells #[.int .i64 c, .int .i64 d] 23)).alloc (.cells #[.int .i64 0, .int .i64 0] 23)) w.heap.size 23 [.int .i64 c, .int .i64 d] := (Blk.new w _ _).alloc _
    have W0Z : Blk ((w.alloc (.cells #[.int .i64 c, .int .i64 d] 23)).alloc (.cells #[.int .i64 0, .int .i64 0] 23)) (w.heap.size + 1) 23 [.int .i64 0, .int .i64 0] := by
      have := Blk.new (w.alloc (.cells #[.int .i64 c, .int .i64 d] 23)) [.int .i64 0, .int .i64 0] 23
      rw [World.size_alloc] at this
      exact this
    have hE0 : Ext w ((w.alloc (.cells #[.int .i64 c, .int .i64 d] 23)).alloc (.cells #[.int .i64 0, .int .i64 0] 23)) := ((Ext.refl w).alloc _).alloc _
    obtain ⟨V0, hV0⟩ : ∃ V, (w.alloc (.cells #[.int .i64 c, .int .i64 d] 23)).alloc (.cells #[.int .i64 0, .int .i64 0] 23) = V := ⟨_, rfl⟩
    go_enter Try.func32, Try.ntmps32
    go_upto_region 1 with fail
    rw [hV0] at W0Y W0Z hE0
    clear hV0
    have qY0 := W0Y.cell 0 _ rfl
    have qY1 := W0Y.cell 1 _ rfl
    have qZ0 := W0Z.cell 0 _ rfl
    have qZ1 := W0Z.cell 1 _ rfl
    have fZ0 := W0Z.frozen 0
    have fZ1 := W0Z.frozen 1
    go_quiet (fail)
    have W1Y := W0Y.drewN nq
    have W1Z := W0Z.drewN nq
    have hE1 := hE0.drewN nq
    obtain ⟨V1, hV1⟩ : ∃ V, V0.drewN nq = V := ⟨_, rfl⟩
    rw [hV1] at W1Y W1Z hE1 ⊢
    clear hV1 W0Y W0Z hE0
    clear qY0 qY1 qZ0 qZ1 fZ0 fZ1
    have qY0 := W1Y.cell 0 _ rfl
    have qY1 := W1Y.cell 1 _ rfl
    have qZ0 := W1Z.cell 0 _ rfl
    have qZ1 := W1Z.cell 1 _ rfl
    have fZ0 := W1Z.frozen 0
    have fZ1 := W1Z.frozen 1
    go_wp2_with fail
    refine (between_any (a - d + 4294967295 + 1) (b - c + 4294967295 + 1) _).mono ?_
    rintro e2 V2 ⟨rfl, g2⟩
    have W2Y := W1Y.ext g2
    have W2Z := W1Z.ext g2
    have hE2 := hE1.trans g2
    clear W1Y W1Z hE1 g2
    clear qY0 qY1 qZ0 qZ1 fZ0 fZ1
    have qY0 := W2Y.cell 0 _ rfl
    have qY1 := W2Y.cell 1 _ rfl
    have qZ0 := W2Z.cell 0 _ rfl
    have qZ1 := W2Z.cell 1 _ rfl
    have fZ0 := W2Z.frozen 0
    have fZ1 := W2Z.frozen 1
    go_wp2_with fail
    refine bodyPost_ret (v := .agg #[_, _]) (by simp [results, Try.results32, go_sem, *]; exact ⟨rfl, rfl⟩) rfl ⟨?_, ?_⟩
    · exact ret_iv hp.out.1 hp.out.2
    repeat' (first | exact Ext.refl _ | assumption | (with_reducible refine Ext.alloc ?_ _) | (with_reducible refine Ext.drew ?_) | (with_reducible refine Ext.drewN _ ?_) | (refine Ext.setCell ?_ (by first | exact Nat.le_refl _ | (simp; done) | (simp; omega) | omega) _) | (refine Ext.trans ?_ (by assumption)))
  · have hp := hidden (show btL (a - d) (b - c) = rulL 9 a b c d ∧ btH (a - d) (b - c) = rulH 9 a b c d from by constructor <;> (first | rw [rulL_9] | rw [rulH_9]) <;> (try unfold btL) <;> (try unfold btH) <;> (try unfold shL) <;> (try unfold shH) <;> (repeat' split) <;> omega)
    have W0Y : Blk ((w.alloc (.cells #[.int .i64 c, .int .i64 d] 23)).alloc (.cells #[.int .i64 0, .int .i64 0] 23)) w.heap.size 23 [.int .i64 c, .int .i64 d] := (Blk.new w _ _).alloc _
    have W0Z : Blk ((w.alloc (.cells #[.int .i64 c, .int .i64 d] 23)).alloc (.cells #[.int .i64 0, .int .i64 0] 23)) (w.heap.size + 1) 23 [.int .i64 0, .int .i64 0] := by
      have := Blk.new (w.alloc (.cells #[.int .i64 c, .int .i64 d] 23)) [.int .i64 0, .int .i64 0] 23
      rw [World.size_alloc] at this
      exact this
    have hE0 : Ext w ((w.alloc (.cells #[.int .i64 c, .int .i64 d] 23)).alloc (.cells #[.int .i64 0, .int .i64 0] 23)) := ((Ext.refl w).alloc _).alloc _
    obtain ⟨V0, hV0⟩ : ∃ V, (w.alloc (.cells #[.int .i64 c, .int .i64 d] 23)).alloc (.cells #[.int .i64 0, .int .i64 0] 23) = V := ⟨_, rfl⟩
    go_enter Try.func32, Try.ntmps32
    go_upto_region 1 with fail
    rw [hV0] at W0Y W0Z hE0
    clear hV0
    have qY0 := W0Y.cell 0 _ rfl
    have qY1 := W0Y.cell 1 _ rfl
    have qZ0 := W0Z.cell 0 _ rfl
    have qZ1 := W0Z.cell 1 _ rfl
    have fZ0 := W0Z.frozen 0
    have fZ1 := W0Z.frozen 1
    go_quiet (fail)
    have W1Y := W0Y.drewN nq
    have W1Z := W0Z.drewN nq
    have hE1 := hE0.drewN nq
    obtain ⟨V1, hV1⟩ : ∃ V, V0.drewN nq = V := ⟨_, rfl⟩
    rw [hV1] at W1Y W1Z hE1 ⊢
    clear hV1 W0Y W0Z hE0
    clear qY0 qY1 qZ0 qZ1 fZ0 fZ1
    have qY0 := W1Y.cell 0 _ rfl
    have qY1 := W1Y.cell 1 _ rfl
    have qZ0 := W1Z.cell 0 _ rfl
    have qZ1 := W1Z.cell 1 _ rfl
    have fZ0 := W1Z.frozen 0
    have fZ1 := W1Z.frozen 1
    go_wp2_with fail
    refine (between_any (a - d) (b - c) _).mono ?_
    rintro e2 V2 ⟨rfl, g2⟩
    have W2Y := W1Y.ext g2
    have W2Z := W1Z.ext g2
    have hE2 := hE1.trans g2
    clear W1Y W1Z hE1 g2
    clear qY0 qY1 qZ0 qZ1 fZ0 fZ1
    have qY0 := W2Y.cell 0 _ rfl
    have qY1 := W2Y.cell 1 _ rfl
    have qZ0 := W2Z.cell 0 _ rfl
    have qZ1 := W2Z.cell 1 _ rfl
    have fZ0 := W2Z.frozen 0
    have fZ1 := W2Z.frozen 1
    go_wp2_with fail
    refine bodyPost_ret (v := .agg #[_, _]) (by simp [results, Try.results32, go_sem, *]; exact ⟨rfl, rfl⟩) rfl ⟨?_, ?_⟩
    · exact ret_iv hp.out.1 hp.out.2
    repeat' (first | exact Ext.refl _ | assumption | (with_reducible refine Ext.alloc ?_ _) | (with_reducible refine Ext.drew ?_) | (with_reducible refine Ext.drewN _ ?_) | (refine Ext.setCell ?_ (by first | exact Nat.le_refl _ | (simp; done) | (simp; omega) | omega) _) | (refine Ext.trans ?_ (by assumption)))
set_option maxHeartbeats 2000000 in
set_option maxRecDepth 100000 in
theorem rx11 (a b c d : Int) (h0 : 0 ≤ a) (h1 : a ≤ b) (h2 : b ≤ 4294967295) (h3 : 0 ≤ c) (h4 : c ≤ d) (h5 : d ≤ 4294967295) (hc : 1 ≤ c) (w : World) : Calls Try.prog 32 #[.int .i64 11, .int .i64 a, .int .i64 b, .agg #[.int .i64 c, .int .i64 d]] w fun x w' => x = .returned (.agg #[.int .i64 (rulL 11 a b c d), .int .i64 (rulH 11 a b c d)]) ∧ Ext w w' := by
  have z1 : ¬ d = 0 := by omega
  have z2 : ¬ c = 0 := by omega
  have y1 : IntKind.i64.wrap (a.tdiv d) = a / d := IntWalk.i64_quo _ _ (by omega)
  have y2 : IntKind.i64.wrap (b.tdiv c) = b / c := IntWalk.i64_quo _ _ (by omega)
  have hp := hidden (show btL (a / d) (b / c) = rulL 11 a b c d ∧ btH (a / d) (b / c) = rulH 11 a b c d from by rw [rulL_11, rulH_11]; have x := div_bd32 a d (by omega) (by omega) (by omega); have y := div_bd32 b c (by omega) (by omega) (by omega); unfold Bd32 at x y; unfold btL btH; rw [if_neg (by omega), if_neg (by omega)]; exact ⟨rfl, rfl⟩)
  have W0Y : Blk ((w.alloc (.cells #[.int .i64 c, .int .i64 d] 23)).alloc (.cells #[.int .i64 0, .int .i64 0] 23)) w.heap.size 23 [.int .i64 c, .int .i64 d] := (Blk.new w _ _).alloc _
  have W0Z : Blk ((w.alloc (.cells #[.int .i64 c, .int .i64 d] 23)).alloc (.cells #[.int .i64 0, .int .i64 0] 23)) (w.heap.size + 1) 23 [.int .i64 0, .int .i64 0] := by
    have := Blk.new (w.alloc (.cells #[.int .i64 c, .int .i64 d] 23)) [.int .i64 0, .int .i64 0] 23
    rw [World.size_alloc] at this
    exact this
  have hE0 : Ext w ((w.alloc (.cells #[.int .i64 c, .int .i64 d] 23)).alloc (.cells #[.int .i64 0, .int .i64 0] 23)) := ((Ext.refl w).alloc _).alloc _
  obtain ⟨V0, hV0⟩ : ∃ V, (w.alloc (.cells #[.int .i64 c, .int .i64 d] 23)).alloc (.cells #[.int .i64 0, .int .i64 0] 23) = V := ⟨_, rfl⟩
  go_enter Try.func32, Try.ntmps32
  go_upto_region 1 with fail
  rw [hV0] at W0Y W0Z hE0
  clear hV0
  have qY0 := W0Y.cell 0 _ rfl
  have qY1 := W0Y.cell 1 _ rfl
  have qZ0 := W0Z.cell 0 _ rfl
  have qZ1 := W0Z.cell 1 _ rfl
  have fZ0 := W0Z.frozen 0
  have fZ1 := W0Z.frozen 1
  go_quiet (fail)
  have W1Y := W0Y.drewN nq
  have W1Z := W0Z.drewN nq
  have hE1 := hE0.drewN nq
  obtain ⟨V1, hV1⟩ : ∃ V, V0.drewN nq = V := ⟨_, rfl⟩
  rw [hV1] at W1Y W1Z hE1 ⊢
  clear hV1 W0Y W0Z hE0
  clear qY0 qY1 qZ0 qZ1 fZ0 fZ1
  have qY0 := W1Y.cell 0 _ rfl
  have qY1 := W1Y.cell 1 _ rfl
  have qZ0 := W1Z.cell 0 _ rfl
  have qZ1 := W1Z.cell 1 _ rfl
  have fZ0 := W1Z.frozen 0
  have fZ1 := W1Z.frozen 1
  go_upto_region 17 with fail
  go_still_tail 6, (by kernel_rfl)
  change wpList _ _ _ _ _ (World.drew V1)
  have W2Y := W1Y.drew
  have W2Z := W1Z.drew
  have hE2 := hE1.drew
  obtain ⟨V2, hV2⟩ : ∃ V, V1.drew = V := ⟨_, rfl⟩
  rw [hV2] at W2Y W2Z hE2 ⊢
  clear hV2 W1Y W1Z hE1
  clear qY0 qY1 qZ0 qZ1 fZ0 fZ1
  have qY0 := W2Y.cell 0 _ rfl
  have qY1 := W2Y.cell 1 _ rfl
  have qZ0 := W2Z.cell 0 _ rfl
  have qZ1 := W2Z.cell 1 _ rfl
  have fZ0 := W2Z.frozen 0
  have fZ1 := W2Z.frozen 1
  go_wp2_with fail
  refine (between_any (a / d) (b / c) _).mono ?_
  rintro e3 V3 ⟨rfl, g3⟩
  have W3Y := W2Y.ext g3
  have W3Z := W2Z.ext g3
  have hE3 := hE2.trans g3
  clear W2Y W2Z hE2 g3
  clear qY0 qY1 qZ0 qZ1 fZ0 fZ1
  have qY0 := W3Y.cell 0 _ rfl
  have qY1 := W3Y.cell 1 _ rfl
  have qZ0 := W3Z.cell 0 _ rfl
  have qZ1 := W3Z.cell 1 _ rfl
  have fZ0 := W3Z.frozen 0
  have fZ1 := W3Z.frozen 1
  go_wp2_with fail
  refine bodyPost_ret (v := .agg #[_, _]) (by simp [results, Try.results32, go_sem, *]; exact ⟨rfl, rfl⟩) rfl ⟨?_, ?_⟩
  · exact ret_iv hp.out.1 hp.out.2
  repeat' (first | exact Ext.refl _ | assumption | (with_reducible refine Ext.alloc ?_ _) | (with_reducible refine Ext.drew ?_) | (with_reducible refine Ext.drewN _ ?_) | (refine Ext.setCell ?_ (by first | exact Nat.le_refl _ | (simp; done) | (simp; omega) | omega) _) | (refine Ext.trans ?_ (by assumption)))
set_option maxHeartbeats 2000000 in
set_option maxRecDepth 100000 in
theorem rx13 (a b c d : Int) (h0 : 0 ≤ a) (h1 : a ≤ b) (h2 : b ≤ 4294967295) (h3 : 0 ≤ c) (h4 : c ≤ d) (h5 : d ≤ 4294967295) (w : World) : Calls Try.prog 32 #[.int .i64 13, .int .i64 a, .int .i64 b, .agg #[.int .i64 c, .int .i64 d]] w fun x w' => x = .returned (.agg #[.int .i64 (rulL 13 a b c d), .int .i64 (rulH 13 a b c d)]) ∧ Ext w w' := by
  have W0Y : Blk ((w.alloc (.cells #[.int .i64 c, .int .i64 d] 23)).alloc (.cells #[.int .i64 0, .int .i64 0] 23)) w.heap.size 23 [.int .i64 c, .int .i64 d] := (Blk.new w _ _).alloc _
  have W0Z : Blk ((w.alloc (.cells #[.int .i64 c, .int .i64 d] 23)).alloc (.cells #[.int .i64 0, .int .i64 0] 23)) (w.heap.size + 1) 23 [.int .i64 0, .int .i64 0] := by
    have := Blk.new (w.alloc (.cells #[.int .i64 c, .int .i64 d] 23)) [.int .i64 0, .int .i64 0] 23
    rw [World.size_alloc] at this
    exact this
  have hE0 : Ext w ((w.alloc (.cells #[.int .i64 c, .int .i64 d] 23)).alloc (.cells #[.int .i64 0, .int .i64 0] 23)) := ((Ext.refl w).alloc _).alloc _
  obtain ⟨V0, hV0⟩ : ∃ V, (w.alloc (.cells #[.int .i64 c, .int .i64 d] 23)).alloc (.cells #[.int .i64 0, .int .i64 0] 23) = V := ⟨_, rfl⟩
  go_enter Try.func32, Try.ntmps32
  go_upto_region 1 with fail
  rw [hV0] at W0Y W0Z hE0
  clear hV0
  have qY0 := W0Y.cell 0 _ rfl
  have qY1 := W0Y.cell 1 _ rfl
  have qZ0 := W0Z.cell 0 _ rfl
  have qZ1 := W0Z.cell 1 _ rfl
  have fZ0 := W0Z.frozen 0
  have fZ1 := W0Z.frozen 1
  go_quiet (fail)
  have W1Y := W0Y.drewN nq
  have W1Z := W0Z.drewN nq
  have hE1 := hE0.drewN nq
  obtain ⟨V1, hV1⟩ : ∃ V, V0.drewN nq = V := ⟨_, rfl⟩
  rw [hV1] at W1Y W1Z hE1 ⊢
  clear hV1 W0Y W0Z hE0
  clear qY0 qY1 qZ0 qZ1 fZ0 fZ1
  have qY0 := W1Y.cell 0 _ rfl
  have qY1 := W1Y.cell 1 _ rfl
  have qZ0 := W1Z.cell 0 _ rfl
  have qZ1 := W1Z.cell 1 _ rfl
  have fZ0 := W1Z.frozen 0
  have fZ1 := W1Z.frozen 1
  go_wp2_with fail
  all_goals
    refine (between_any _ _ _).mono ?_
    rintro e2 V2 ⟨rfl, g2⟩
    have W2Y := W1Y.ext g2
    have W2Z := W1Z.ext g2
    have hE2 := hE1.trans g2
    clear W1Y W1Z hE1 g2
    clear qY0 qY1 qZ0 qZ1 fZ0 fZ1
    have qY0 := W2Y.cell 0 _ rfl
    have qY1 := W2Y.cell 1 _ rfl
    have qZ0 := W2Z.cell 0 _ rfl
    have qZ1 := W2Z.cell 1 _ rfl
    have fZ0 := W2Z.frozen 0
    have fZ1 := W2Z.frozen 1
    go_wp2_with fail
    refine bodyPost_ret (v := .agg #[_, _]) (by simp [results, Try.results32, go_sem, *]; exact ⟨rfl, rfl⟩) rfl ⟨?_, ?_⟩
    · exact ret_iv (by rw [rulL_13]; unfold btL; (repeat' split) <;> omega) (by rw [rulH_13]; unfold btH; (repeat' split) <;> omega)
    repeat' (first | exact Ext.refl _ | assumption | (with_reducible refine Ext.alloc ?_ _) | (with_reducible refine Ext.drew ?_) | (with_reducible refine Ext.drewN _ ?_) | (refine Ext.setCell ?_ (by first | exact Nat.le_refl _ | (simp; done) | (simp; omega) | omega) _) | (refine Ext.trans ?_ (by assumption)))
set_option maxHeartbeats 2000000 in
set_option maxRecDepth 100000 in
theorem rx18 (a b c d : Int) (h0 : 0 ≤ a) (h1 : a ≤ b) (h2 : b ≤ 4294967295) (h3 : 0 ≤ c) (h4 : c ≤ d) (h5 : d ≤ 4294967295) (w : World) : Calls Try.prog 32 #[.int .i64 18, .int .i64 a, .int .i64 b, .agg #[.int .i64 c, .int .i64 d]] w fun x w' => x = .returned (.agg #[.int .i64 (rulL 18 a b c d), .int .i64 (rulH 18 a b c d)]) ∧ Ext w w' := by
  have W0Y : Blk ((w.alloc (.cells #[.int .i64 c, .int .i64 d] 23)).alloc (.cells #[.int .i64 0, .int .i64 0] 23)) w.heap.size 23 [.int .i64 c, .int .i64 d] := (Blk.new w _ _).alloc _
  have W0Z : Blk ((w.alloc (.cells #[.int .i64 c, .int .i64 d] 23)).alloc (.cells #[.int .i64 0, .int .i64 0] 23)) (w.heap.size + 1) 23 [.int .i64 0, .int .i64 0] := by
    have := Blk.new (w.alloc (.cells #[.int .i64 c, .int .i64 d] 23)) [.int .i64 0, .int .i64 0] 23
    rw [World.size_alloc] at this
    exact this
  have hE0 : Ext w ((w.alloc (.cells #[.int .i64 c, .int .i64 d] 23)).alloc (.cells #[.int .i64 0, .int .i64 0] 23)) := ((Ext.refl w).alloc _).alloc _
  obtain ⟨V0, hV0⟩ : ∃ V, (w.alloc (.cells #[.int .i64 c, .int .i64 d] 23)).alloc (.cells #[.int .i64 0, .int .i64 0] 23) = V := ⟨_, rfl⟩
  go_enter Try.func32, Try.ntmps32
  go_upto_region 1 with fail
  rw [hV0] at W0Y W0Z hE0
  clear hV0
  have qY0 := W0Y.cell 0 _ rfl
  have qY1 := W0Y.cell 1 _ rfl
  have qZ0 := W0Z.cell 0 _ rfl
  have qZ1 := W0Z.cell 1 _ rfl
  have fZ0 := W0Z.frozen 0
  have fZ1 := W0Z.frozen 1
  go_quiet (fail)
  have W1Y := W0Y.drewN nq
  have W1Z := W0Z.drewN nq
  have hE1 := hE0.drewN nq
  obtain ⟨V1, hV1⟩ : ∃ V, V0.drewN nq = V := ⟨_, rfl⟩
  rw [hV1] at W1Y W1Z hE1 ⊢
  clear hV1 W0Y W0Z hE0
  clear qY0 qY1 qZ0 qZ1 fZ0 fZ1
  have qY0 := W1Y.cell 0 _ rfl
  have qY1 := W1Y.cell 1 _ rfl
  have qZ0 := W1Z.cell 0 _ rfl
  have qZ1 := W1Z.cell 1 _ rfl
  have fZ0 := W1Z.frozen 0
  have fZ1 := W1Z.frozen 1
  go_wp2_with fail
  all_goals
    refine (between_any _ _ _).mono ?_
    rintro e2 V2 ⟨rfl, g2⟩
    have W2Y := W1Y.ext g2
    have W2Z := W1Z.ext g2
    have hE2 := hE1.trans g2
    clear W1Y W1Z hE1 g2
    clear qY0 qY1 qZ0 qZ1 fZ0 fZ1
    have qY0 := W2Y.cell 0 _ rfl
    have qY1 := W2Y.cell 1 _ rfl
    have qZ0 := W2Z.cell 0 _ rfl
    have qZ1 := W2Z.cell 1 _ rfl
    have fZ0 := W2Z.frozen 0
    have fZ1 := W2Z.frozen 1
    go_wp2_with fail
    refine bodyPost_ret (v := .agg #[_, _]) (by simp [results, Try.results32, go_sem, *]; exact ⟨rfl, rfl⟩) rfl ⟨?_, ?_⟩
    · exact ret_iv (by rw [rulL_18]; unfold btL; (repeat' split) <;> omega) (by rw [rulH_18]; unfold btH; (repeat' split) <;> omega)
    repeat' (first | exact Ext.refl _ | assumption | (with_reducible refine Ext.alloc ?_ _) | (with_reducible refine Ext.drew ?_) | (with_reducible refine Ext.drewN _ ?_) | (refine Ext.setCell ?_ (by first | exact Nat.le_refl _ | (simp; done) | (simp; omega) | omega) _) | (refine Ext.trans ?_ (by assumption)))
set_option maxHeartbeats 2000000 in
set_option maxRecDepth 100000 in
theorem rx19 (a b c d : Int) (h0 : 0 ≤ a) (h1 : a ≤ b) (h2 : b ≤ 4294967295) (h3 : 0 ≤ c) (h4 : c ≤ d) (h5 : d ≤ 4294967295) (w : World) : Calls Try.prog 32 #[.int .i64 19, .int .i64 a, .int .i64 b, .agg #[.int .i64 c, .int .i64 d]] w fun x w' => x = .returned (.agg #[.int .i64 (rulL 19 a b c d), .int .i64 (rulH 19 a b c d)]) ∧ Ext w w' := by
  have W0Y : Blk ((w.alloc (.cells #[.int .i64 c, .int .i64 d] 23)).alloc (.cells #[.int .i64 0, .int .i64 0] 23)) w.heap.size 23 [.int .i64 c, .int .i64 d] := (Blk.new w _ _).alloc _
  have W0Z : Blk ((w.alloc (.cells #[.int .i64 c, .int .i64 d] 23)).alloc (.cells #[.int .i64 0, .int .i64 0] 23)) (w.heap.size + 1) 23 [.int .i64 0, .int .i64 0] := by
    have := Blk.new (w.alloc (.cells #[.int .i64 c, .int .i64 d] 23)) [.int .i64 0, .int .i64 0] 23
    rw [World.size_alloc] at this
    exact this
  have hE0 : Ext w ((w.alloc (.cells #[.int .i64 c, .int .i64 d] 23)).alloc (.cells #[.int .i64 0, .int .i64 0] 23)) := ((Ext.refl w).alloc _).alloc _
  obtain ⟨V0, hV0⟩ : ∃ V, (w.alloc (.cells #[.int .i64 c, .int .i64 d] 23)).alloc (.cells #[.int .i64 0, .int .i64 0] 23) = V := ⟨_, rfl⟩
  go_enter Try.func32, Try.ntmps32
  go_upto_region 1 with fail
  rw [hV0] at W0Y W0Z hE0
  clear hV0
  have qY0 := W0Y.cell 0 _ rfl
  have qY1 := W0Y.cell 1 _ rfl
  have qZ0 := W0Z.cell 0 _ rfl
  have qZ1 := W0Z.cell 1 _ rfl
  have fZ0 := W0Z.frozen 0
  have fZ1 := W0Z.frozen 1
  go_quiet (fail)
  have W1Y := W0Y.drewN nq
  have W1Z := W0Z.drewN nq
  have hE1 := hE0.drewN nq
  obtain ⟨V1, hV1⟩ : ∃ V, V0.drewN nq = V := ⟨_, rfl⟩
  rw [hV1] at W1Y W1Z hE1 ⊢
  clear hV1 W0Y W0Z hE0
  clear qY0 qY1 qZ0 qZ1 fZ0 fZ1
  have qY0 := W1Y.cell 0 _ rfl
  have qY1 := W1Y.cell 1 _ rfl
  have qZ0 := W1Z.cell 0 _ rfl
  have qZ1 := W1Z.cell 1 _ rfl
  have fZ0 := W1Z.frozen 0
  have fZ1 := W1Z.frozen 1
  go_wp2_with fail
  all_goals
    refine (between_any _ _ _).mono ?_
    rintro e2 V2 ⟨rfl, g2⟩
    have W2Y := W1Y.ext g2
    have W2Z := W1Z.ext g2
    have hE2 := hE1.trans g2
    clear W1Y W1Z hE1 g2
    clear qY0 qY1 qZ0 qZ1 fZ0 fZ1
    have qY0 := W2Y.cell 0 _ rfl
    have qY1 := W2Y.cell 1 _ rfl
    have qZ0 := W2Z.cell 0 _ rfl
    have qZ1 := W2Z.cell 1 _ rfl
    have fZ0 := W2Z.frozen 0
    have fZ1 := W2Z.frozen 1
    go_wp2_with fail
    refine bodyPost_ret (v := .agg #[_, _]) (by simp [results, Try.results32, go_sem, *]; exact ⟨rfl, rfl⟩) rfl ⟨?_, ?_⟩
    · exact ret_iv (by rw [rulL_19]; unfold btL; (repeat' split) <;> omega) (by rw [rulH_19]; unfold btH; (repeat' split) <;> omega)
    repeat' (first | exact Ext.refl _ | assumption | (with_reducible refine Ext.alloc ?_ _) | (with_reducible refine Ext.drew ?_) | (with_reducible refine Ext.drewN _ ?_) | (refine Ext.setCell ?_ (by first | exact Nat.le_refl _ | (simp; done) | (simp; omega) | omega) _) | (refine Ext.trans ?_ (by assumption)))
set_option maxHeartbeats 2000000 in
set_option maxRecDepth 100000 in
theorem rx12 (a b c d : Int) (h0 : 0 ≤ a) (h1 : a ≤ b) (h2 : b ≤ 4294967295) (h3 : 0 ≤ c) (h4 : c ≤ d) (h5 : d ≤ 4294967295) (hc : 1 ≤ c) (w : World) : Calls Try.prog 32 #[.int .i64 12, .int .i64 a, .int .i64 b, .agg #[.int .i64 c, .int .i64 d]] w fun x w' => x = .returned (.agg #[.int .i64 (rulL 12 a b c d), .int .i64 (rulH 12 a b c d)]) ∧ Ext w w' := by
  by_cases k : b < c
  · have W0Y : Blk ((w.alloc (.cells #[.int .i64 c, .int .i64 d] 23)).alloc (.cells #[.int .i64 0, .int .i64 0] 23)) w.heap.size 23 [.int .i64 c, .int .i64 d] := (Blk.new w _ _).alloc _
    have W0Z : Blk ((w.alloc (.cells #[.int .i64 c, .int .i64 d] 23)).alloc (.cells #[.int .i64 0, .int .i64 0] 23)) (w.heap.size + 1) 23 [.int .i64 0, .int .i64 0] := by
      have := Blk.new (w.alloc (.cells #[.int .i64 c, .int .i64 d] 23)) [.int .i64 0, .int .i64 0] 23
      rw [World.size_alloc] at this
      exact this
    have hE0 : Ext w ((w.alloc (.cells #[.int .i64 c, .int .i64 d] 23)).alloc (.cells #[.int .i64 0, .int .i64 0] 23)) := ((Ext.refl w).alloc _).alloc _
    obtain ⟨V0, hV0⟩ : ∃ V, (w.alloc (.cells #[.int .i64 c, .int .i64 d] 23)).alloc (.cells #[.int .i64 0, .int .i64 0] 23) = V := ⟨_, rfl⟩
    go_enter Try.func32, Try.ntmps32
    go_upto_region 1 with fail
    rw [hV0] at W0Y W0Z hE0
    clear hV0
    have qY0 := W0Y.cell 0 _ rfl
    have qY1 := W0Y.cell 1 _ rfl
    have qZ0 := W0Z.cell 0 _ rfl
    have qZ1 := W0Z.cell 1 _ rfl
    have fZ0 := W0Z.frozen 0
    have fZ1 := W0Z.frozen 1
    go_quiet (fail)
    have W1Y := W0Y.drewN nq
    have W1Z := W0Z.drewN nq
    have hE1 := hE0.drewN nq
    obtain ⟨V1, hV1⟩ : ∃ V, V0.drewN nq = V := ⟨_, rfl⟩
    rw [hV1] at W1Y W1Z hE1 ⊢
    clear hV1 W0Y W0Z hE0
    clear qY0 qY1 qZ0 qZ1 fZ0 fZ1
    have qY0 := W1Y.cell 0 _ rfl
    have qY1 := W1Y.cell 1 _ rfl
    have qZ0 := W1Z.cell 0 _ rfl
    have qZ1 := W1Z.cell 1 _ rfl
    have fZ0 := W1Z.frozen 0
    have fZ1 := W1Z.frozen 1
    go_wp2_with fail
    all_goals
      refine (between_any _ _ _).mono ?_
      rintro e2 V2 ⟨rfl, g2⟩
      have W2Y := W1Y.ext g2
      have W2Z := W1Z.ext g2
      have hE2 := hE1.trans g2
      clear W1Y W1Z hE1 g2
      clear qY0 qY1 qZ0 qZ1 fZ0 fZ1
      have qY0 := W2Y.cell 0 _ rfl
      have qY1 := W2Y.cell 1 _ rfl
      have qZ0 := W2Z.cell 0 _ rfl
      have qZ1 := W2Z.cell 1 _ rfl
      have fZ0 := W2Z.frozen 0
      have fZ1 := W2Z.frozen 1
      go_wp2_with fail
      refine bodyPost_ret (v := .agg #[_, _]) (by simp [results, Try.results32, go_sem, *]; exact ⟨rfl, rfl⟩) rfl ⟨?_, ?_⟩
      · exact ret_iv (by rw [rulL_12]; unfold btL; (repeat' split) <;> omega) (by rw [rulH_12]; unfold btH; (repeat' split) <;> omega)
      repeat' (first | exact Ext.refl _ | assumption | (with_reducible refine Ext.alloc ?_ _) | (with_reducible refine Ext.drew ?_) | (with_reducible refine Ext.drewN _ ?_) | (refine Ext.setCell ?_ (by first | exact Nat.le_refl _ | (simp; done) | (simp; omega) | omega) _) | (refine Ext.trans ?_ (by assumption)))
  · have W0Y : Blk ((w.alloc (.cells #[.int .i64 c, .int .i64 d] 23)).alloc (.cells #[.int .i64 0, .int .i64 0] 23)) w.heap.size 23 [.int .i64 c, .int .i64 d] := (Blk.new w _ _).alloc _
    have W0Z : Blk ((w.alloc (.cells #[.int .i64 c, .int .i64 d] 23)).alloc (.cells #[.int .i64 0, .int .i64 0] 23)) (w.heap.size + 1) 23 [.int .i64 0, .int .i64 0] := by
      have := Blk.new (w.alloc (.cells #[.int .i64 c, .int .i64 d] 23)) [.int .i64 0, .int .i64 0] 23
      rw [World.size_alloc] at this
      exact this
    have hE0 : Ext w ((w.alloc (.cells #[.int .i64 c, .int .i64 d] 23)).alloc (.cells #[.int .i64 0, .int .i64 0] 23)) := ((Ext.refl w).alloc _).alloc _
    obtain ⟨V0, hV0⟩ : ∃ V, (w.alloc (.cells #[.int .i64 c, .int .i64 d] 23)).alloc (.cells #[.int .i64 0, .int .i64 0] 23) = V := ⟨_, rfl⟩
    go_enter Try.func32, Try.ntmps32
    go_upto_region 1 with fail
    rw [hV0] at W0Y W0Z hE0
    clear hV0
    have qY0 := W0Y.cell 0 _ rfl
    have qY1 := W0Y.cell 1 _ rfl
    have qZ0 := W0Z.cell 0 _ rfl
    have qZ1 := W0Z.cell 1 _ rfl
    have fZ0 := W0Z.frozen 0
    have fZ1 := W0Z.frozen 1
    go_quiet (fail)
    have W1Y := W0Y.drewN nq
    have W1Z := W0Z.drewN nq
    have hE1 := hE0.drewN nq
    obtain ⟨V1, hV1⟩ : ∃ V, V0.drewN nq = V := ⟨_, rfl⟩
    rw [hV1] at W1Y W1Z hE1 ⊢
    clear hV1 W0Y W0Z hE0
    clear qY0 qY1 qZ0 qZ1 fZ0 fZ1
    have qY0 := W1Y.cell 0 _ rfl
    have qY1 := W1Y.cell 1 _ rfl
    have qZ0 := W1Z.cell 0 _ rfl
    have qZ1 := W1Z.cell 1 _ rfl
    have fZ0 := W1Z.frozen 0
    have fZ1 := W1Z.frozen 1
    go_wp2_with fail
    all_goals
      refine (between_any _ _ _).mono ?_
      rintro e2 V2 ⟨rfl, g2⟩
      have W2Y := W1Y.ext g2
      have W2Z := W1Z.ext g2
      have hE2 := hE1.trans g2
      clear W1Y W1Z hE1 g2
      clear qY0 qY1 qZ0 qZ1 fZ0 fZ1
      have qY0 := W2Y.cell 0 _ rfl
      have qY1 := W2Y.cell 1 _ rfl
      have qZ0 := W2Z.cell 0 _ rfl
      have qZ1 := W2Z.cell 1 _ rfl
      have fZ0 := W2Z.frozen 0
      have fZ1 := W2Z.frozen 1
      go_wp2_with fail
      refine bodyPost_ret (v := .agg #[_, _]) (by simp [results, Try.results32, go_sem, *]; exact ⟨rfl, rfl⟩) rfl ⟨?_, ?_⟩
      · exact ret_iv (by rw [rulL_12]; unfold btL; (repeat' split) <;> omega) (by rw [rulH_12]; unfold btH; (repeat' split) <;> omega)
      repeat' (first | exact Ext.refl _ | assumption | (with_reducible refine Ext.alloc ?_ _) | (with_reducible refine Ext.drew ?_) | (with_reducible refine Ext.drewN _ ?_) | (refine Ext.setCell ?_ (by first | exact Nat.le_refl _ | (simp; done) | (simp; omega) | omega) _) | (refine Ext.trans ?_ (by assumption)))
theorem ones_bd (n : Int) (h0 : 0 ≤ n) (h1 : n ≤ 4294967295) : n ≤ ones n ∧ ones n ≤ 4294967295 := by
  have hb := bitLen_le n h0 h1
  have e : ∀ i : Nat, ((2 ^ i : Nat) : Int) = (2 : Int) ^ i := fun i => by simp
  have h2 := (bitLen_iff n.toNat _ (by omega)).1 (Nat.le_refl _)
  have h3 := (pow_bd _ hb).2
  unfold ones
  have := e (Lib.bitLen n.toNat)
  omega
set_option maxHeartbeats 2000000 in
set_option maxRecDepth 100000 in
theorem rx14 (a b c d : Int) (h0 : 0 ≤ a) (h1 : a ≤ b) (h2 : b ≤ 4294967295) (h3 : 0 ≤ c) (h4 : c ≤ d) (h5 : d ≤ 4294967295) (w : World) : Calls Try.prog 32 #[.int .i64 14, .int .i64 a, .int .i64 b, .agg #[.int .i64 c, .int .i64 d]] w fun x w' => x = .returned (.agg #[.int .i64 (rulL 14 a b c d), .int .i64 (rulH 14 a b c d)]) ∧ Ext w w' := by
  by_cases k1 : b < d
  · have ho := ones_bd d (by omega) (by omega)
    have hm : max b d = d := by omega
    obtain ⟨R, hR⟩ : ∃ R, ones d = R := ⟨_, rfl⟩
    have hc9 := fun w => rones_any d (by omega) (by omega) w
    rw [hR] at hc9 ho
    have hf : Hid (rulH 14 a b c d = R) := hidden (by rw [rulH_14, hm, hR])
    have hc9 := hidden hc9
    clear hR hm
    have W0Y : Blk ((w.alloc (.cells #[.int .i64 c, .int .i64 d] 23)).alloc (.cells #[.int .i64 0, .int .i64 0] 23)) w.heap.size 23 [.int .i64 c, .int .i64 d] := (Blk.new w _ _).alloc _
    have W0Z : Blk ((w.alloc (.cells #[.int .i64 c, .int .i64 d] 23)).alloc (.cells #[.int .i64 0, .int .i64 0] 23)) (w.heap.size + 1) 23 [.int .i64 0, .int .i64 0] := by
      have := Blk.new (w.alloc (.cells #[.int .i64 c, .int .i64 d] 23)) [.int .i64 0, .int .i64 0] 23
      rw [World.size_alloc] at this
      exact this
    have hE0 : Ext w ((w.alloc (.cells #[.int .i64 c, .int .i64 d] 23)).alloc (.cells #[.int .i64 0, .int .i64 0] 23)) := ((Ext.refl w).alloc _).alloc _
    obtain ⟨V0, hV0⟩ : ∃ V, (w.alloc (.cells #[.int .i64 c, .int .i64 d] 23)).alloc (.cells #[.int .i64 0, .int .i64 0] 23) = V := ⟨_, rfl⟩
    go_enter Try.func32, Try.ntmps32
    go_upto_region 1 with fail
    rw [hV0] at W0Y W0Z hE0
    clear hV0
    have qY0 := W0Y.cell 0 _ rfl
    have qY1 := W0Y.cell 1 _ rfl
    have qZ0 := W0Z.cell 0 _ rfl
    have qZ1 := W0Z.cell 1 _ rfl
    have fZ0 := W0Z.frozen 0
    have fZ1 := W0Z.frozen 1
    go_quiet (fail)
    have W1Y := W0Y.drewN nq
    have W1Z := W0Z.drewN nq
    have hE1 := hE0.drewN nq
    obtain ⟨V1, hV1⟩ : ∃ V, V0.drewN nq = V := ⟨_, rfl⟩
    rw [hV1] at W1Y W1Z hE1 ⊢
    clear hV1 W0Y W0Z hE0
    clear qY0 qY1 qZ0 qZ1 fZ0 fZ1
    have qY0 := W1Y.cell 0 _ rfl
    have qY1 := W1Y.cell 1 _ rfl
    have qZ0 := W1Z.cell 0 _ rfl
    have qZ1 := W1Z.cell 1 _ rfl
    have fZ0 := W1Z.frozen 0
    have fZ1 := W1Z.frozen 1
    go_wp2_with fail
    all_goals
      refine (hc9.out _).mono ?_
      rintro e9 w9 ⟨rfl, rfl⟩
      go_wp2_with fail
      refine (between_any _ _ _).mono ?_
      rintro e2 V2 ⟨rfl, g2⟩
      have W2Y := W1Y.ext g2
      have W2Z := W1Z.ext g2
      have hE2 := hE1.trans g2
      clear W1Y W1Z hE1 g2
      clear qY0 qY1 qZ0 qZ1 fZ0 fZ1
      have qY0 := W2Y.cell 0 _ rfl
      have qY1 := W2Y.cell 1 _ rfl
      have qZ0 := W2Z.cell 0 _ rfl
      have qZ1 := W2Z.cell 1 _ rfl
      have fZ0 := W2Z.frozen 0
      have fZ1 := W2Z.frozen 1
      go_wp2_with fail
      refine bodyPost_ret (v := .agg #[_, _]) (by simp [results, Try.results32, go_sem, *]; exact ⟨rfl, rfl⟩) rfl ⟨?_, ?_⟩
      · exact ret_iv (by rw [rulL_14]; unfold btL; (repeat' split) <;> omega) (by rw [hf.out]; unfold btH; (repeat' split) <;> omega)
      repeat' (first | exact Ext.refl _ | assumption | (with_reducible refine Ext.alloc ?_ _) | (with_reducible refine Ext.drew ?_) | (with_reducible refine Ext.drewN _ ?_) | (refine Ext.setCell ?_ (by first | exact Nat.le_refl _ | (simp; done) | (simp; omega) | omega) _) | (refine Ext.trans ?_ (by assumption)))
  · have ho := ones_bd b (by omega) (by omega)
    have hm : max b d = b := by omega
    obtain ⟨R, hR⟩ : ∃ R, ones b = R := ⟨_, rfl⟩
    have hc9 := fun w => rones_any b (by omega) (by omega) w
    rw [hR] at hc9 ho
    have hf : Hid (rulH 14 a b c d = R) := hidden (by rw [rulH_14, hm, hR])
    have hc9 := hidden hc9
    clear hR hm
    have W0Y : Blk ((w.alloc (.cells #[.int .i64 c, .int .i64 d] 23)).alloc (.cells #[.int .i64 0, .int .i64 0] 23)) w.heap.size 23 [.int .i64 c, .int .i64 d] := (Blk.new w _ _).alloc _
    have W0Z : Blk ((w.alloc (.cells #[.int .i64 c, .int .i64 d] 23)).alloc (.cells #[.int .i64 0, .int .i64 0] 23)) (w.heap.size + 1) 23 [.int .i64 0, .int .i64 0] := by
      have := Blk.new (w.alloc (.cells #[.int .i64 c, .int .i64 d] 23)) [.int .i64 0, .int .i64 0] 23
      rw [World.size_alloc] at this
      exact this
    have hE0 : Ext w ((w.alloc (.cells #[.int .i64 c, .int .i64 d] 23)).alloc (.cells #[.int .i64 0, .int .i64 0] 23)) := ((Ext.refl w).alloc _).alloc _
    obtain ⟨V0, hV0⟩ : ∃ V, (w.alloc (.cells #[.int .i64 c, .int .i64 d] 23)).alloc (.cells #[.int .i64 0, .int .i64 0] 23) = V := ⟨_, rfl⟩
    go_enter Try.func32, Try.ntmps32
    go_upto_region 1 with fail
    rw [hV0] at W0Y W0Z hE0
    clear hV0
    have qY0 := W0Y.cell 0 _ rfl
    have qY1 := W0Y.cell 1 _ rfl
    have qZ0 := W0Z.cell 0 _ rfl
    have qZ1 := W0Z.cell 1 _ rfl
    have fZ0 := W0Z.frozen 0
    have fZ1 := W0Z.frozen 1
    go_quiet (fail)
    have W1Y := W0Y.drewN nq
    have W1Z := W0Z.drewN nq
    have hE1 := hE0.drewN nq
    obtain ⟨V1, hV1⟩ : ∃ V, V0.drewN nq = V := ⟨_, rfl⟩
    rw [hV1] at W1Y W1Z hE1 ⊢
    clear hV1 W0Y W0Z hE0
    clear qY0 qY1 qZ0 qZ1 fZ0 fZ1
    have qY0 := W1Y.cell 0 _ rfl
    have qY1 := W1Y.cell 1 _ rfl
    have qZ0 := W1Z.cell 0 _ rfl
    have qZ1 := W1Z.cell 1 _ rfl
    have fZ0 := W1Z.frozen 0
    have fZ1 := W1Z.frozen 1
    go_wp2_with fail
    all_goals
      refine (hc9.out _).mono ?_
      rintro e9 w9 ⟨rfl, rfl⟩
      go_wp2_with fail
      refine (between_any _ _ _).mono ?_
      rintro e2 V2 ⟨rfl, g2⟩
      have W2Y := W1Y.ext g2
      have W2Z := W1Z.ext g2
      have hE2 := hE1.trans g2
      clear W1Y W1Z hE1 g2
      clear qY0 qY1 qZ0 qZ1 fZ0 fZ1
      have qY0 := W2Y.cell 0 _ rfl
      have qY1 := W2Y.cell 1 _ rfl
      have qZ0 := W2Z.cell 0 _ rfl
      have qZ1 := W2Z.cell 1 _ rfl
      have fZ0 := W2Z.frozen 0
      have fZ1 := W2Z.frozen 1
      go_wp2_with fail
      refine bodyPost_ret (v := .agg #[_, _]) (by simp [results, Try.results32, go_sem, *]; exact ⟨rfl, rfl⟩) rfl ⟨?_, ?_⟩
      · exact ret_iv (by rw [rulL_14]; unfold btL; (repeat' split) <;> omega) (by rw [hf.out]; unfold btH; (repeat' split) <;> omega)
      repeat' (first | exact Ext.refl _ | assumption | (with_reducible refine Ext.alloc ?_ _) | (with_reducible refine Ext.drew ?_) | (with_reducible refine Ext.drewN _ ?_) | (refine Ext.setCell ?_ (by first | exact Nat.le_refl _ | (simp; done) | (simp; omega) | omega) _) | (refine Ext.trans ?_ (by assumption)))
set_option maxHeartbeats 2000000 in
set_option maxRecDepth 100000 in
theorem rx15 (a b c d : Int) (h0 : 0 ≤ a) (h1 : a ≤ b) (h2 : b ≤ 4294967295) (h3 : 0 ≤ c) (h4 : c ≤ d) (h5 : d ≤ 4294967295) (w : World) : Calls Try.prog 32 #[.int .i64 15, .int .i64 a, .int .i64 b, .agg #[.int .i64 c, .int .i64 d]] w fun x w' => x = .returned (.agg #[.int .i64 (rulL 15 a b c d), .int .i64 (rulH 15 a b c d)]) ∧ Ext w w' := by
  by_cases k1 : b < d
  · have ho := ones_bd d (by omega) (by omega)
    have hm : max b d = d := by omega
    obtain ⟨R, hR⟩ : ∃ R, ones d = R := ⟨_, rfl⟩
    have hc9 := fun w => rones_any d (by omega) (by omega) w
    rw [hR] at hc9 ho
    have hf : Hid (rulH 15 a b c d = R) := hidden (by rw [rulH_15, hm, hR])
    have hc9 := hidden hc9
    clear hR hm
    have W0Y : Blk ((w.alloc (.cells #[.int .i64 c, .int .i64 d] 23)).alloc (.cells #[.int .i64 0, .int .i64 0] 23)) w.heap.size 23 [.int .i64 c, .int .i64 d] := (Blk.new w _ _).alloc _
    have W0Z : Blk ((w.alloc (.cells #[.int .i64 c, .int .i64 d] 23)).alloc (.cells #[.int .i64 0, .int .i64 0] 23)) (w.heap.size + 1) 23 [.int .i64 0, .int .i64 0] := by
      have := Blk.new (w.alloc (.cells #[.int .i64 c, .int .i64 d] 23)) [.int .i64 0, .int .i64 0] 23
      rw [World.size_alloc] at this
      exact this
    have hE0 : Ext w ((w.alloc (.cells #[.int .i64 c, .int .i64 d] 23)).alloc (.cells #[.int .i64 0, .int .i64 0] 23)) := ((Ext.refl w).alloc _).alloc _
    obtain ⟨V0, hV0⟩ : ∃ V, (w.alloc (.cells #[.int .i64 c, .int .i64 d] 23)).alloc (.cells #[.int .i64 0, .int .i64 0] 23) = V := ⟨_, rfl⟩
    go_enter Try.func32, Try.ntmps32
    go_upto_region 1 with fail
    rw [hV0] at W0Y W0Z hE0
    clear hV0
    have qY0 := W0Y.cell 0 _ rfl
    have qY1 := W0Y.cell 1 _ rfl
    have qZ0 := W0Z.cell 0 _ rfl
    have qZ1 := W0Z.cell 1 _ rfl
    have fZ0 := W0Z.frozen 0
    have fZ1 := W0Z.frozen 1
    go_quiet (fail)
    have W1Y := W0Y.drewN nq
    have W1Z := W0Z.drewN nq
    have hE1 := hE0.drewN nq
    obtain ⟨V1, hV1⟩ : ∃ V, V0.drewN nq = V := ⟨_, rfl⟩
    rw [hV1] at W1Y W1Z hE1 ⊢
    clear hV1 W0Y W0Z hE0
    clear qY0 qY1 qZ0 qZ1 fZ0 fZ1
    have qY0 := W1Y.cell 0 _ rfl
    have qY1 := W1Y.cell 1 _ rfl
    have qZ0 := W1Z.cell 0 _ rfl
    have qZ1 := W1Z.cell 1 _ rfl
    have fZ0 := W1Z.frozen 0
    have fZ1 := W1Z.frozen 1
    go_wp2_with fail
    all_goals
      refine (hc9.out _).mono ?_
      rintro e9 w9 ⟨rfl, rfl⟩
      go_wp2_with fail
      refine (between_any _ _ _).mono ?_
      rintro e2 V2 ⟨rfl, g2⟩
      have W2Y := W1Y.ext g2
      have W2Z := W1Z.ext g2
      have hE2 := hE1.trans g2
      clear W1Y W1Z hE1 g2
      clear qY0 qY1 qZ0 qZ1 fZ0 fZ1
      have qY0 := W2Y.cell 0 _ rfl
      have qY1 := W2Y.cell 1 _ rfl
      have qZ0 := W2Z.cell 0 _ rfl
      have qZ1 := W2Z.cell 1 _ rfl
      have fZ0 := W2Z.frozen 0
      have fZ1 := W2Z.frozen 1
      go_wp2_with fail
      refine bodyPost_ret (v := .agg #[_, _]) (by simp [results, Try.results32, go_sem, *]; exact ⟨rfl, rfl⟩) rfl ⟨?_, ?_⟩
      · exact ret_iv (by rw [rulL_15]; unfold btL; (repeat' split) <;> omega) (by rw [hf.out]; unfold btH; (repeat' split) <;> omega)
      repeat' (first | exact Ext.refl _ | assumption | (with_reducible refine Ext.alloc ?_ _) | (with_reducible refine Ext.drew ?_) | (with_reducible refine Ext.drewN _ ?_) | (refine Ext.setCell ?_ (by first | exact Nat.le_refl _ | (simp; done) | (simp; omega) | omega) _) | (refine Ext.trans ?_ (by assumption)))
  · have ho := ones_bd b (by omega) (by omega)
    have hm : max b d = b := by omega
    obtain ⟨R, hR⟩ : ∃ R, ones b = R := ⟨_, rfl⟩
    have hc9 := fun w => rones_any b (by omega) (by omega) w
    rw [hR] at hc9 ho
    have hf : Hid (rulH 15 a b c d = R) := hidden (by rw [rulH_15, hm, hR])
    have hc9 := hidden hc9
    clear hR hm
    have W0Y : Blk ((w.alloc (.cells #[.int .i64 c, .int .i64 d] 23)).alloc (.cells #[.int .i64 0, .int .i64 0] 23)) w.heap.size 23 [.int .i64 c, .int .i64 d] := (Blk.new w _ _).alloc _
    have W0Z : Blk ((w.alloc (.cells #[.int .i64 c, .int .i64 d] 23)).alloc (.cells #[.int .i64 0, .int .i64 0] 23)) (w.heap.size + 1) 23 [.int .i64 0, .int .i64 0] := by
      have := Blk.new (w.alloc (.cells #[.int .i64 c, .int .i64 d] 23)) [.int .i64 0, .int .i64 0] 23
      rw [World.size_alloc] at this
      exact this
    have hE0 : Ext w ((w.alloc (.cells #[.int .i64 c, .int .i64 d] 23)).alloc (.cells #[.int .i64 0, .int .i64 0] 23)) := ((Ext.refl w).alloc _).alloc _
    obtain ⟨V0, hV0⟩ : ∃ V, (w.alloc (.cells #[.int .i64 c, .int .i64 d] 23)).alloc (.cells #[.int .i64 0, .int .i64 0] 23) = V := ⟨_, rfl⟩
    go_enter Try.func32, Try.ntmps32
    go_upto_region 1 with fail
    rw [hV0] at W0Y W0Z hE0
    clear hV0
    have qY0 := W0Y.cell 0 _ rfl
    have qY1 := W0Y.cell 1 _ rfl
    have qZ0 := W0Z.cell 0 _ rfl
    have qZ1 := W0Z.cell 1 _ rfl
    have fZ0 := W0Z.frozen 0
    have fZ1 := W0Z.frozen 1
    go_quiet (fail)
    have W1Y := W0Y.drewN nq
    have W1Z := W0Z.drewN nq
    have hE1 := hE0.drewN nq
    obtain ⟨V1, hV1⟩ : ∃ V, V0.drewN nq = V := ⟨_, rfl⟩
    rw [hV1] at W1Y W1Z hE1 ⊢
    clear hV1 W0Y W0Z hE0
    clear qY0 qY1 qZ0 qZ1 fZ0 fZ1
    have qY0 := W1Y.cell 0 _ rfl
    have qY1 := W1Y.cell 1 _ rfl
    have qZ0 := W1Z.cell 0 _ rfl
    have qZ1 := W1Z.cell 1 _ rfl
    have fZ0 := W1Z.frozen 0
    have fZ1 := W1Z.frozen 1
    go_wp2_with fail
    all_goals
      refine (hc9.out _).mono ?_
      rintro e9 w9 ⟨rfl, rfl⟩
      go_wp2_with fail
      refine (between_any _ _ _).mono ?_
      rintro e2 V2 ⟨rfl, g2⟩
      have W2Y := W1Y.ext g2
      have W2Z := W1Z.ext g2
      have hE2 := hE1.trans g2
      clear W1Y W1Z hE1 g2
      clear qY0 qY1 qZ0 qZ1 fZ0 fZ1
      have qY0 := W2Y.cell 0 _ rfl
      have qY1 := W2Y.cell 1 _ rfl
      have qZ0 := W2Z.cell 0 _ rfl
      have qZ1 := W2Z.cell 1 _ rfl
      have fZ0 := W2Z.frozen 0
      have fZ1 := W2Z.frozen 1
      go_wp2_with fail
      refine bodyPost_ret (v := .agg #[_, _]) (by simp [results, Try.results32, go_sem, *]; exact ⟨rfl, rfl⟩) rfl ⟨?_, ?_⟩
      · exact ret_iv (by rw [rulL_15]; unfold btL; (repeat' split) <;> omega) (by rw [hf.out]; unfold btH; (repeat' split) <;> omega)
      repeat' (first | exact Ext.refl _ | assumption | (with_reducible refine Ext.alloc ?_ _) | (with_reducible refine Ext.drew ?_) | (with_reducible refine Ext.drewN _ ?_) | (refine Ext.setCell ?_ (by first | exact Nat.le_refl _ | (simp; done) | (simp; omega) | omega) _) | (refine Ext.trans ?_ (by assumption)))
theorem mul_bd2 (a b c d : Int) (h0 : 0 ≤ a) (h1 : a ≤ b) (h3 : 0 ≤ c) (h4 : c ≤ d) (k1 : 0 < d) (k2 : ¬ 4294967295 / d < b) :
    0 ≤ a * c ∧ a * c ≤ 4294967295 ∧ 0 ≤ b * d ∧ b * d ≤ 4294967295 := by
  have hb : b * d ≤ 4294967295 := Int.le_trans (Int.mul_le_mul_of_nonneg_right (by omega) (by omega)) (Int.ediv_mul_le _ (by omega))
  have hab : a * c ≤ b * c := Int.mul_le_mul_of_nonneg_right h1 (by omega)
  have hbc : b * c ≤ b * d := Int.mul_le_mul_of_nonneg_left h4 (by omega)
  have ha : 0 ≤ a * c := Int.mul_nonneg h0 (by omega)
  omega
set_option maxHeartbeats 2000000 in
set_option maxRecDepth 100000 in
theorem rx10 (a b c d : Int) (h0 : 0 ≤ a) (h1 : a ≤ b) (h2 : b ≤ 4294967295) (h3 : 0 ≤ c) (h4 : c ≤ d) (h5 : d ≤ 4294967295) (w : World) : Calls Try.prog 32 #[.int .i64 10, .int .i64 a, .int .i64 b, .agg #[.int .i64 c, .int .i64 d]] w fun x w' => x = .returned (.agg #[.int .i64 (rulL 10 a b c d), .int .i64 (rulH 10 a b c d)]) ∧ Ext w w' := by
  by_cases k1 : 0 < d
  · by_cases k2 : 4294967295 / d < b
    · rw [rulL_10, rulH_10, if_pos ⟨k1, k2⟩, if_pos ⟨k1, k2⟩]
      have y1 : IntKind.i64.wrap (Int.tdiv 4294967295 d) = 4294967295 / d := IntWalk.i64_quo _ _ (by omega)
      have z1 : ¬ d = 0 := by omega
      have W0Y : Blk ((w.alloc (.cells #[.int .i64 c, .int .i64 d] 23)).alloc (.cells #[.int .i64 0, .int .i64 0] 23)) w.heap.size 23 [.int .i64 c, .int .i64 d] := (Blk.new w _ _).alloc _
      have W0Z : Blk ((w.alloc (.cells #[.int .i64 c, .int .i64 d] 23)).alloc (.cells #[.int .i64 0, .int .i64 0] 23)) (w.heap.size + 1) 23 [.int .i64 0, .int .i64 0] := by
        have := Blk.new (w.alloc (.cells #[.int .i64 c, .int .i64 d] 23)) [.int .i64 0, .int .i64 0] 23
        rw [World.size_alloc] at this
        exact this
      have hE0 : Ext w ((w.alloc (.cells #[.int .i64 c, .int .i64 d] 23)).alloc (.cells #[.int .i64 0, .int .i64 0] 23)) := ((Ext.refl w).alloc _).alloc _
      obtain ⟨V0, hV0⟩ : ∃ V, (w.alloc (.cells #[.int .i64 c, .int .i64 d] 23)).alloc (.cells #[.int .i64 0, .int .i64 0] 23) = V := ⟨_, rfl⟩
      go_enter Try.func32, Try.ntmps32
      go_upto_region 1 with fail
      rw [hV0] at W0Y W0Z hE0
      clear hV0
      have qY0 := W0Y.cell 0 _ rfl
      have qY1 := W0Y.cell 1 _ rfl
      have qZ0 := W0Z.cell 0 _ rfl
      have qZ1 := W0Z.cell 1 _ rfl
      have fZ0 := W0Z.frozen 0
      have fZ1 := W0Z.frozen 1
      go_quiet (fail)
      have W1Y := W0Y.drewN nq
      have W1Z := W0Z.drewN nq
      have hE1 := hE0.drewN nq
      obtain ⟨V1, hV1⟩ : ∃ V, V0.drewN nq = V := ⟨_, rfl⟩
      rw [hV1] at W1Y W1Z hE1 ⊢
      clear hV1 W0Y W0Z hE0
      clear qY0 qY1 qZ0 qZ1 fZ0 fZ1
      have qY0 := W1Y.cell 0 _ rfl
      have qY1 := W1Y.cell 1 _ rfl
      have qZ0 := W1Z.cell 0 _ rfl
      have qZ1 := W1Z.cell 1 _ rfl
      have fZ0 := W1Z.frozen 0
      have fZ1 := W1Z.frozen 1
      go_wp2_with fail
      refine (rfull_any _).mono ?_
      rintro e2 V2 ⟨rfl, g2⟩
      have W2Y := W1Y.ext g2
      have W2Z := W1Z.ext g2
      have hE2 := hE1.trans g2
      clear W1Y W1Z hE1 g2
      clear qY0 qY1 qZ0 qZ1 fZ0 fZ1
      have qY0 := W2Y.cell 0 _ rfl
      have qY1 := W2Y.cell 1 _ rfl
      have qZ0 := W2Z.cell 0 _ rfl
      have qZ1 := W2Z.cell 1 _ rfl
      have fZ0 := W2Z.frozen 0
      have fZ1 := W2Z.frozen 1
      go_wp2_with fail
      refine bodyPost_ret (v := .agg #[_, _]) (by simp [results, Try.results32, go_sem, *]; exact ⟨rfl, rfl⟩) rfl ⟨?_, ?_⟩
      · exact rfl
      repeat' (first | exact Ext.refl _ | assumption | (with_reducible refine Ext.alloc ?_ _) | (with_reducible refine Ext.drew ?_) | (with_reducible refine Ext.drewN _ ?_) | (refine Ext.setCell ?_ (by first | exact Nat.le_refl _ | (simp; done) | (simp; omega) | omega) _) | (refine Ext.trans ?_ (by assumption)))
    · have y1 : IntKind.i64.wrap (Int.tdiv 4294967295 d) = 4294967295 / d := IntWalk.i64_quo _ _ (by omega)
      have z1 : ¬ d = 0 := by omega
      obtain ⟨y3, y4, y5, y6⟩ := mul_bd2 a b c d h0 h1 h3 h4 k1 k2
      have hp := hidden (show btL (a * c) (b * d) = rulL 10 a b c d ∧ btH (a * c) (b * d) = rulH 10 a b c d from by rw [rulL_10, rulH_10, if_neg (by omega), if_neg (by omega)]; unfold btL btH; rw [if_neg (by omega), if_neg (by omega)]; exact ⟨rfl, rfl⟩)
      have W0Y : Blk ((w.alloc (.cells #[.int .i64 c, .int .i64 d] 23)).alloc (.cells #[.int .i64 0, .int .i64 0] 23)) w.heap.size 23 [.int .i64 c, .int .i64 d] := (Blk.new w _ _).alloc _
      have W0Z : Blk ((w.alloc (.cells #[.int .i64 c, .int .i64 d] 23)).alloc (.cells #[.int .i64 0, .int .i64 0] 23)) (w.heap.size + 1) 23 [.int .i64 0, .int .i64 0] := by
        have := Blk.new (w.alloc (.cells #[.int .i64 c, .int .i64 d] 23)) [.int .i64 0, .int .i64 0] 23
        rw [World.size_alloc] at this
        exact this
      have hE0 : Ext w ((w.alloc (.cells #[.int .i64 c, .int .i64 d] 23)).alloc (.cells #[.int .i64 0, .int .i64 0] 23)) := ((Ext.refl w).alloc _).alloc _
      obtain ⟨V0, hV0⟩ : ∃ V, (w.alloc (.cells #[.int .i64 c, .int .i64 d] 23)).alloc (.cells #[.int .i64 0, .int .i64 0] 23) = V := ⟨_, rfl⟩
      go_enter Try.func32, Try.ntmps32
      go_upto_region 1 with fail
      rw [hV0] at W0Y W0Z hE0
      clear hV0
      have qY0 := W0Y.cell 0 _ rfl
      have qY1 := W0Y.cell 1 _ rfl
      have qZ0 := W0Z.cell 0 _ rfl
      have qZ1 := W0Z.cell 1 _ rfl
      have fZ0 := W0Z.frozen 0
      have fZ1 := W0Z.frozen 1
      go_quiet (fail)
      have W1Y := W0Y.drewN nq
      have W1Z := W0Z.drewN nq
      have hE1 := hE0.drewN nq
      obtain ⟨V1, hV1⟩ : ∃ V, V0.drewN nq = V := ⟨_, rfl⟩
      rw [hV1] at W1Y W1Z hE1 ⊢
      clear hV1 W0Y W0Z hE0
      clear qY0 qY1 qZ0 qZ1 fZ0 fZ1
      have qY0 := W1Y.cell 0 _ rfl
      have qY1 := W1Y.cell 1 _ rfl
      have qZ0 := W1Z.cell 0 _ rfl
      have qZ1 := W1Z.cell 1 _ rfl
      have fZ0 := W1Z.frozen 0
      have fZ1 := W1Z.frozen 1
      go_wp2_with fail
      refine (between_any (a * c) (b * d) _).mono ?_
      rintro e2 V2 ⟨rfl, g2⟩
      have W2Y := W1Y.ext g2
      have W2Z := W1Z.ext g2
      have hE2 := hE1.trans g2
      clear W1Y W1Z hE1 g2
      clear qY0 qY1 qZ0 qZ1 fZ0 fZ1
      have qY0 := W2Y.cell 0 _ rfl
      have qY1 := W2Y.cell 1 _ rfl
      have qZ0 := W2Z.cell 0 _ rfl
      have qZ1 := W2Z.cell 1 _ rfl
      have fZ0 := W2Z.frozen 0
      have fZ1 := W2Z.frozen 1
      go_wp2_with fail
      refine bodyPost_ret (v := .agg #[_, _]) (by simp [results, Try.results32, go_sem, *]; exact ⟨rfl, rfl⟩) rfl ⟨?_, ?_⟩
      · exact ret_iv hp.out.1 hp.out.2
      repeat' (first | exact Ext.refl _ | assumption | (with_reducible refine Ext.alloc ?_ _) | (with_reducible refine Ext.drew ?_) | (with_reducible refine Ext.drewN _ ?_) | (refine Ext.setCell ?_ (by first | exact Nat.le_refl _ | (simp; done) | (simp; omega) | omega) _) | (refine Ext.trans ?_ (by assumption)))
  · obtain rfl : d = 0 := by omega
    obtain rfl : c = 0 := by omega
    rw [rulL_10, rulH_10, if_neg (by omega), if_neg (by omega)]
    simp only [Int.mul_zero]
    have W0Y : Blk ((w.alloc (.cells #[.int .i64 0, .int .i64 0] 23)).alloc (.cells #[.int .i64 0, .int .i64 0] 23)) w.heap.size 23 [.int .i64 0, .int .i64 0] := (Blk.new w _ _).alloc _
    have W0Z : Blk ((w.alloc (.cells #[.int .i64 0, .int .i64 0] 23)).alloc (.cells #[.int .i64 0, .int .i64 0] 23)) (w.heap.size + 1) 23 [.int .i64 0, .int .i64 0] := by
      have := Blk.new (w.alloc (.cells #[.int .i64 0, .int .i64 0] 23)) [.int .i64 0, .int .i64 0] 23
      rw [World.size_alloc] at this
      exact this
    have hE0 : Ext w ((w.alloc (.cells #[.int .i64 0, .int .i64 0] 23)).alloc (.cells #[.int .i64 0, .int .i64 0] 23)) := ((Ext.refl w).alloc _).alloc _
    obtain ⟨V0, hV0⟩ : ∃ V, (w.alloc (.cells #[.int .i64 0, .int .i64 0] 23)).alloc (.cells #[.int .i64 0, .int .i64 0] 23) = V := ⟨_, rfl⟩
    go_enter Try.func32, Try.ntmps32
    go_upto_region 1 with fail
    rw [hV0] at W0Y W0Z hE0
    clear hV0
    have qY0 := W0Y.cell 0 _ rfl
    have qY1 := W0Y.cell 1 _ rfl
    have qZ0 := W0Z.cell 0 _ rfl
    have qZ1 := W0Z.cell 1 _ rfl
    have fZ0 := W0Z.frozen 0
    have fZ1 := W0Z.frozen 1
    go_quiet (fail)
    have W1Y := W0Y.drewN nq
    have W1Z := W0Z.drewN nq
    have hE1 := hE0.drewN nq
    obtain ⟨V1, hV1⟩ : ∃ V, V0.drewN nq = V := ⟨_, rfl⟩
    rw [hV1] at W1Y W1Z hE1 ⊢
    clear hV1 W0Y W0Z hE0
    clear qY0 qY1 qZ0 qZ1 fZ0 fZ1
    have qY0 := W1Y.cell 0 _ rfl
    have qY1 := W1Y.cell 1 _ rfl
    have qZ0 := W1Z.cell 0 _ rfl
    have qZ1 := W1Z.cell 1 _ rfl
    have fZ0 := W1Z.frozen 0
    have fZ1 := W1Z.frozen 1
    go_wp2_with fail
    refine (between_any 0 0 _).mono ?_
    rintro e2 V2 ⟨rfl, g2⟩
    have W2Y := W1Y.ext g2
    have W2Z := W1Z.ext g2
    have hE2 := hE1.trans g2
    clear W1Y W1Z hE1 g2
    clear qY0 qY1 qZ0 qZ1 fZ0 fZ1
    have qY0 := W2Y.cell 0 _ rfl
    have qY1 := W2Y.cell 1 _ rfl
    have qZ0 := W2Z.cell 0 _ rfl
    have qZ1 := W2Z.cell 1 _ rfl
    have fZ0 := W2Z.frozen 0
    have fZ1 := W2Z.frozen 1
    go_wp2_with fail
    refine bodyPost_ret (v := .agg #[_, _]) (by simp [results, Try.results32, go_sem, *]; exact ⟨rfl, rfl⟩) rfl ⟨?_, ?_⟩
    · exact rfl
    repeat' (first | exact Ext.refl _ | assumption | (with_reducible refine Ext.alloc ?_ _) | (with_reducible refine Ext.drew ?_) | (with_reducible refine Ext.drewN _ ?_) | (refine Ext.setCell ?_ (by first | exact Nat.le_refl _ | (simp; done) | (simp; omega) | omega) _) | (refine Ext.trans ?_ (by assumption)))
theorem shl_full (b : Int) (s : Nat) (hs : s ≤ 31) : 4294967295 / 2 ^ s < b ↔ 4294967295 < b * 2 ^ s := by
  have p := (pow_bd s (by omega)).1
  exact Int.ediv_lt_iff_lt_mul (by omega)
set_option maxHeartbeats 2000000 in
set_option maxRecDepth 100000 in
theorem rx16 (a b c d : Int) (h0 : 0 ≤ a) (h1 : a ≤ b) (h2 : b ≤ 4294967295) (h3 : 0 ≤ c) (h4 : c ≤ d) (h5 : d ≤ 4294967295) (w : World) : Calls Try.prog 32 #[.int .i64 16, .int .i64 a, .int .i64 b, .agg #[.int .i64 c, .int .i64 d]] w fun x w' => x = .returned (.agg #[.int .i64 (rulL 16 a b c d), .int .i64 (rulH 16 a b c d)]) ∧ Ext w w' := by
  by_cases k1 : c = d
  · have z1 : 0 ≤ c % 32 := by omega
    have z2 : c % 32 ≤ 31 := by omega
    have hp := hidden (show btL (a * 2 ^ (c % 32).toNat) (b * 2 ^ (c % 32).toNat) = rulL 16 a b c d ∧ btH (a * 2 ^ (c % 32).toNat) (b * 2 ^ (c % 32).toNat) = rulH 16 a b c d from by
      have hf := shl_full b (c % 32).toNat (by omega)
      have ha := (mul_pow_bd a (c % 32).toNat h0 (by omega) (by omega)).1
      rw [rulL_16, rulH_16]
      unfold btL btH
      by_cases k2 : 4294967295 / 2 ^ (c % 32).toNat < b
      · rw [if_pos (Or.inr (hf.1 k2)), if_pos (Or.inr k2), if_pos (Or.inr (hf.1 k2)), if_pos (Or.inr k2)]; exact ⟨rfl, rfl⟩
      · have hf2 : ¬ 4294967295 < b * 2 ^ (c % 32).toNat := fun h => k2 (hf.2 h)
        rw [if_neg (by omega), if_neg (by omega), if_neg (by omega), if_neg (by omega)]; exact ⟨rfl, rfl⟩)
    have k3 : (c != d) = false := by simp [k1]
    clear k1
    have W0Y : Blk ((w.alloc (.cells #[.int .i64 c, .int .i64 d] 23)).alloc (.cells #[.int .i64 0, .int .i64 0] 23)) w.heap.size 23 [.int .i64 c, .int .i64 d] := (Blk.new w _ _).alloc _
    have W0Z : Blk ((w.alloc (.cells #[.int .i64 c, .int .i64 d] 23)).alloc (.cells #[.int .i64 0, .int .i64 0] 23)) (w.heap.size + 1) 23 [.int .i64 0, .int .i64 0] := by
      have := Blk.new (w.alloc (.cells #[.int .i64 c, .int .i64 d] 23)) [.int .i64 0, .int .i64 0] 23
      rw [World.size_alloc] at this
      exact this
    have hE0 : Ext w ((w.alloc (.cells #[.int .i64 c, .int .i64 d] 23)).alloc (.cells #[.int .i64 0, .int .i64 0] 23)) := ((Ext.refl w).alloc _).alloc _
    obtain ⟨V0, hV0⟩ : ∃ V, (w.alloc (.cells #[.int .i64 c, .int .i64 d] 23)).alloc (.cells #[.int .i64 0, .int .i64 0] 23) = V := ⟨_, rfl⟩
    go_enter Try.func32, Try.ntmps32
    go_upto_region 1 with fail
    rw [hV0] at W0Y W0Z hE0
    clear hV0
    have qY0 := W0Y.cell 0 _ rfl
    have qY1 := W0Y.cell 1 _ rfl
    have qZ0 := W0Z.cell 0 _ rfl
    have qZ1 := W0Z.cell 1 _ rfl
    have fZ0 := W0Z.frozen 0
    have fZ1 := W0Z.frozen 1
    go_quiet (fail)
    have W1Y := W0Y.drewN nq
    have W1Z := W0Z.drewN nq
    have hE1 := hE0.drewN nq
    obtain ⟨V1, hV1⟩ : ∃ V, V0.drewN nq = V := ⟨_, rfl⟩
    rw [hV1] at W1Y W1Z hE1 ⊢
    clear hV1 W0Y W0Z hE0
    clear qY0 qY1 qZ0 qZ1 fZ0 fZ1
    have qY0 := W1Y.cell 0 _ rfl
    have qY1 := W1Y.cell 1 _ rfl
    have qZ0 := W1Z.cell 0 _ rfl
    have qZ1 := W1Z.cell 1 _ rfl
    have fZ0 := W1Z.frozen 0
    have fZ1 := W1Z.frozen 1
    go_wp2_with fail
    refine (rshifted_any a _ h0 (by omega) z1 z2 _).mono ?_
    rintro e9 w9 ⟨rfl, rfl⟩
    go_wp2_with fail
    refine (rshifted_any b _ (by omega) h2 z1 z2 _).mono ?_
    rintro e9 w9 ⟨rfl, rfl⟩
    go_wp2_with fail
    refine (between_any _ _ _).mono ?_
    rintro e2 V2 ⟨rfl, g2⟩
    have W2Y := W1Y.ext g2
    have W2Z := W1Z.ext g2
    have hE2 := hE1.trans g2
    clear W1Y W1Z hE1 g2
    clear qY0 qY1 qZ0 qZ1 fZ0 fZ1
    have qY0 := W2Y.cell 0 _ rfl
    have qY1 := W2Y.cell 1 _ rfl
    have qZ0 := W2Z.cell 0 _ rfl
    have qZ1 := W2Z.cell 1 _ rfl
    have fZ0 := W2Z.frozen 0
    have fZ1 := W2Z.frozen 1
    go_wp2_with fail
    refine bodyPost_ret (v := .agg #[_, _]) (by simp [results, Try.results32, go_sem, *]; exact ⟨rfl, rfl⟩) rfl ⟨?_, ?_⟩
    · exact ret_iv hp.out.1 hp.out.2
    repeat' (first | exact Ext.refl _ | assumption | (with_reducible refine Ext.alloc ?_ _) | (with_reducible refine Ext.drew ?_) | (with_reducible refine Ext.drewN _ ?_) | (refine Ext.setCell ?_ (by first | exact Nat.le_refl _ | (simp; done) | (simp; omega) | omega) _) | (refine Ext.trans ?_ (by assumption)))
  · rw [rulL_16, rulH_16, if_pos (Or.inl k1), if_pos (Or.inl k1)]
    have k3 : (c != d) = true := by simp [k1]
    clear k1
    have W0Y : Blk ((w.alloc (.cells #[.int .i64 c, .int .i64 d] 23)).alloc (.cells #[.int .i64 0, .int .i64 0] 23)) w.heap.size 23 [.int .i64 c, .int .i64 d] := (Blk.new w _ _).alloc _
    have W0Z : Blk ((w.alloc (.cells #[.int .i64 c, .int .i64 d] 23)).alloc (.cells #[.int .i64 0, .int .i64 0] 23)) (w.heap.size + 1) 23 [.int .i64 0, .int .i64 0] := by
      have := Blk.new (w.alloc (.cells #[.int .i64 c, .int .i64 d] 23)) [.int .i64 0, .int .i64 0] 23
      rw [World.size_alloc] at this
      exact this
    have hE0 : Ext w ((w.alloc (.cells #[.int .i64 c, .int .i64 d] 23)).alloc (.cells #[.int .i64 0, .int .i64 0] 23)) := ((Ext.refl w).alloc _).alloc _
    obtain ⟨V0, hV0⟩ : ∃ V, (w.alloc (.cells #[.int .i64 c, .int .i64 d] 23)).alloc (.cells #[.int .i64 0, .int .i64 0] 23) = V := ⟨_, rfl⟩
    go_enter Try.func32, Try.ntmps32
    go_upto_region 1 with fail
    rw [hV0] at W0Y W0Z hE0
    clear hV0
    have qY0 := W0Y.cell 0 _ rfl
    have qY1 := W0Y.cell 1 _ rfl
    have qZ0 := W0Z.cell 0 _ rfl
    have qZ1 := W0Z.cell 1 _ rfl
    have fZ0 := W0Z.frozen 0
    have fZ1 := W0Z.frozen 1
    go_quiet (fail)
    have W1Y := W0Y.drewN nq
    have W1Z := W0Z.drewN nq
    have hE1 := hE0.drewN nq
    obtain ⟨V1, hV1⟩ : ∃ V, V0.drewN nq = V := ⟨_, rfl⟩
    rw [hV1] at W1Y W1Z hE1 ⊢
    clear hV1 W0Y W0Z hE0
    clear qY0 qY1 qZ0 qZ1 fZ0 fZ1
    have qY0 := W1Y.cell 0 _ rfl
    have qY1 := W1Y.cell 1 _ rfl
    have qZ0 := W1Z.cell 0 _ rfl
    have qZ1 := W1Z.cell 1 _ rfl
    have fZ0 := W1Z.frozen 0
    have fZ1 := W1Z.frozen 1
    go_wp2_with fail
    refine (rfull_any _).mono ?_
    rintro e2 V2 ⟨rfl, g2⟩
    have W2Y := W1Y.ext g2
    have W2Z := W1Z.ext g2
    have hE2 := hE1.trans g2
    clear W1Y W1Z hE1 g2
    clear qY0 qY1 qZ0 qZ1 fZ0 fZ1
    have qY0 := W2Y.cell 0 _ rfl
    have qY1 := W2Y.cell 1 _ rfl
    have qZ0 := W2Z.cell 0 _ rfl
    have qZ1 := W2Z.cell 1 _ rfl
    have fZ0 := W2Z.frozen 0
    have fZ1 := W2Z.frozen 1
    go_wp2_with fail
    refine bodyPost_ret (v := .agg #[_, _]) (by simp [results, Try.results32, go_sem, *]; exact ⟨rfl, rfl⟩) rfl ⟨?_, ?_⟩
    · exact rfl
    repeat' (first | exact Ext.refl _ | assumption | (with_reducible refine Ext.alloc ?_ _) | (with_reducible refine Ext.drew ?_) | (with_reducible refine Ext.drewN _ ?_) | (refine Ext.setCell ?_ (by first | exact Nat.le_refl _ | (simp; done) | (simp; omega) | omega) _) | (refine Ext.trans ?_ (by assumption)))
set_option maxHeartbeats 2000000 in
set_option maxRecDepth 100000 in
theorem rx17 (a b c d : Int) (h0 : 0 ≤ a) (h1 : a ≤ b) (h2 : b ≤ 4294967295) (h3 : 0 ≤ c) (h4 : c ≤ d) (h5 : d ≤ 4294967295) (w : World) : Calls Try.prog 32 #[.int .i64 17, .int .i64 a, .int .i64 b, .agg #[.int .i64 c, .int .i64 d]] w fun x w' => x = .returned (.agg #[.int .i64 (rulL 17 a b c d), .int .i64 (rulH 17 a b c d)]) ∧ Ext w w' := by
  by_cases k1 : d ≤ 31
  · have hp := hidden (show btL (a / 2 ^ d.toNat) (b / 2 ^ c.toNat) = rulL 17 a b c d ∧ btH (a / 2 ^ d.toNat) (b / 2 ^ c.toNat) = rulH 17 a b c d from by
      have x := div_pow_bd a d.toNat h0 (by omega)
      have y := div_pow_bd b c.toNat (by omega) h2
      rw [rulL_17, rulH_17]
      unfold btL btH
      rw [if_neg (by omega), if_pos k1, if_neg (by omega), if_pos k1]; exact ⟨rfl, rfl⟩)
    have W0Y : Blk ((w.alloc (.cells #[.int .i64 c, .int .i64 d] 23)).alloc (.cells #[.int .i64 0, .int .i64 0] 23)) w.heap.size 23 [.int .i64 c, .int .i64 d] := (Blk.new w _ _).alloc _
    have W0Z : Blk ((w.alloc (.cells #[.int .i64 c, .int .i64 d] 23)).alloc (.cells #[.int .i64 0, .int .i64 0] 23)) (w.heap.size + 1) 23 [.int .i64 0, .int .i64 0] := by
      have := Blk.new (w.alloc (.cells #[.int .i64 c, .int .i64 d] 23)) [.int .i64 0, .int .i64 0] 23
      rw [World.size_alloc] at this
      exact this
    have hE0 : Ext w ((w.alloc (.cells #[.int .i64 c, .int .i64 d] 23)).alloc (.cells #[.int .i64 0, .int .i64 0] 23)) := ((Ext.refl w).alloc _).alloc _
    obtain ⟨V0, hV0⟩ : ∃ V, (w.alloc (.cells #[.int .i64 c, .int .i64 d] 23)).alloc (.cells #[.int .i64 0, .int .i64 0] 23) = V := ⟨_, rfl⟩
    go_enter Try.func32, Try.ntmps32
    go_upto_region 1 with fail
    rw [hV0] at W0Y W0Z hE0
    clear hV0
    have qY0 := W0Y.cell 0 _ rfl
    have qY1 := W0Y.cell 1 _ rfl
    have qZ0 := W0Z.cell 0 _ rfl
    have qZ1 := W0Z.cell 1 _ rfl
    have fZ0 := W0Z.frozen 0
    have fZ1 := W0Z.frozen 1
    go_quiet (fail)
    have W1Y := W0Y.drewN nq
    have W1Z := W0Z.drewN nq
    have hE1 := hE0.drewN nq
    obtain ⟨V1, hV1⟩ : ∃ V, V0.drewN nq = V := ⟨_, rfl⟩
    rw [hV1] at W1Y W1Z hE1 ⊢
    clear hV1 W0Y W0Z hE0
    clear qY0 qY1 qZ0 qZ1 fZ0 fZ1
    have qY0 := W1Y.cell 0 _ rfl
    have qY1 := W1Y.cell 1 _ rfl
    have qZ0 := W1Z.cell 0 _ rfl
    have qZ1 := W1Z.cell 1 _ rfl
    have fZ0 := W1Z.frozen 0
    have fZ1 := W1Z.frozen 1
    go_wp2_with fail
    refine (lowered_any a d h0 (by omega) (by omega) k1 _).mono ?_
    rintro e9 w9 ⟨rfl, rfl⟩
    go_wp2_with fail
    refine (lowered_any b c (by omega) h2 h3 (by omega) _).mono ?_
    rintro e9 w9 ⟨rfl, rfl⟩
    go_wp2_with fail
    refine (between_any _ _ _).mono ?_
    rintro e2 V2 ⟨rfl, g2⟩
    have W2Y := W1Y.ext g2
    have W2Z := W1Z.ext g2
    have hE2 := hE1.trans g2
    clear W1Y W1Z hE1 g2
    clear qY0 qY1 qZ0 qZ1 fZ0 fZ1
    have qY0 := W2Y.cell 0 _ rfl
    have qY1 := W2Y.cell 1 _ rfl
    have qZ0 := W2Z.cell 0 _ rfl
    have qZ1 := W2Z.cell 1 _ rfl
    have fZ0 := W2Z.frozen 0
    have fZ1 := W2Z.frozen 1
    go_wp2_with fail
    refine bodyPost_ret (v := .agg #[_, _]) (by simp [results, Try.results32, go_sem, *]; exact ⟨rfl, rfl⟩) rfl ⟨?_, ?_⟩
    · exact ret_iv hp.out.1 hp.out.2
    repeat' (first | exact Ext.refl _ | assumption | (with_reducible refine Ext.alloc ?_ _) | (with_reducible refine Ext.drew ?_) | (with_reducible refine Ext.drewN _ ?_) | (refine Ext.setCell ?_ (by first | exact Nat.le_refl _ | (simp; done) | (simp; omega) | omega) _) | (refine Ext.trans ?_ (by assumption)))
  · by_cases k2 : c = d
    · have z1 : 0 ≤ c % 32 := by omega
      have z2 : c % 32 ≤ 31 := by omega
      have hp := hidden (show btL (a / 2 ^ (c % 32).toNat) (b / 2 ^ (c % 32).toNat) = rulL 17 a b c d ∧ btH (a / 2 ^ (c % 32).toNat) (b / 2 ^ (c % 32).toNat) = rulH 17 a b c d from by
        have x := div_pow_bd a (c % 32).toNat h0 (by omega)
        have y := div_pow_bd b (c % 32).toNat (by omega) h2
        rw [rulL_17, rulH_17]
        unfold btL btH
        rw [if_neg (by omega), if_neg k1, if_pos k2, if_neg (by omega), if_neg k1, if_pos k2]; exact ⟨rfl, rfl⟩)
      have k3 : (c == d) = true := by simp [k2]
      clear k2
      have W0Y : Blk ((w.alloc (.cells #[.int .i64 c, .int .i64 d] 23)).alloc (.cells #[.int .i64 0, .int .i64 0] 23)) w.heap.size 23 [.int .i64 c, .int .i64 d] := (Blk.new w _ _).alloc _
      have W0Z : Blk ((w.alloc (.cells #[.int .i64 c, .int .i64 d] 23)).alloc (.cells #[.int .i64 0, .int .i64 0] 23)) (w.heap.size + 1) 23 [.int .i64 0, .int .i64 0] := by
        have := Blk.new (w.alloc (.cells #[.int .i64 c, .int .i64 d] 23)) [.int .i64 0, .int .i64 0] 23
        rw [World.size_alloc] at this
        exact this
      have hE0 : Ext w ((w.alloc (.cells #[.int .i64 c, .int .i64 d] 23)).alloc (.cells #[.int .i64 0, .int .i64 0] 23)) := ((Ext.refl w).alloc _).alloc _
      obtain ⟨V0, hV0⟩ : ∃ V, (w.alloc (.cells #[.int .i64 c, .int .i64 d] 23)).alloc (.cells #[.int .i64 0, .int .i64 0] 23) = V := ⟨_, rfl⟩
      go_enter Try.func32, Try.ntmps32
      go_upto_region 1 with fail
      rw [hV0] at W0Y W0Z hE0
      clear hV0
      have qY0 := W0Y.cell 0 _ rfl
      have qY1 := W0Y.cell 1 _ rfl
      have qZ0 := W0Z.cell 0 _ rfl
      have qZ1 := W0Z.cell 1 _ rfl
      have fZ0 := W0Z.frozen 0
      have fZ1 := W0Z.frozen 1
      go_quiet (fail)
      have W1Y := W0Y.drewN nq
      have W1Z := W0Z.drewN nq
      have hE1 := hE0.drewN nq
      obtain ⟨V1, hV1⟩ : ∃ V, V0.drewN nq = V := ⟨_, rfl⟩
      rw [hV1] at W1Y W1Z hE1 ⊢
      clear hV1 W0Y W0Z hE0
      clear qY0 qY1 qZ0 qZ1 fZ0 fZ1
      have qY0 := W1Y.cell 0 _ rfl
      have qY1 := W1Y.cell 1 _ rfl
      have qZ0 := W1Z.cell 0 _ rfl
      have qZ1 := W1Z.cell 1 _ rfl
      have fZ0 := W1Z.frozen 0
      have fZ1 := W1Z.frozen 1
      go_wp2_with fail
      refine (lowered_any a _ h0 (by omega) z1 z2 _).mono ?_
      rintro e9 w9 ⟨rfl, rfl⟩
      go_wp2_with fail
      refine (lowered_any b _ (by omega) h2 z1 z2 _).mono ?_
      rintro e9 w9 ⟨rfl, rfl⟩
      go_wp2_with fail
      refine (between_any _ _ _).mono ?_
      rintro e2 V2 ⟨rfl, g2⟩
      have W2Y := W1Y.ext g2
      have W2Z := W1Z.ext g2
      have hE2 := hE1.trans g2
      clear W1Y W1Z hE1 g2
      clear qY0 qY1 qZ0 qZ1 fZ0 fZ1
      have qY0 := W2Y.cell 0 _ rfl
      have qY1 := W2Y.cell 1 _ rfl
      have qZ0 := W2Z.cell 0 _ rfl
      have qZ1 := W2Z.cell 1 _ rfl
      have fZ0 := W2Z.frozen 0
      have fZ1 := W2Z.frozen 1
      go_wp2_with fail
      refine bodyPost_ret (v := .agg #[_, _]) (by simp [results, Try.results32, go_sem, *]; exact ⟨rfl, rfl⟩) rfl ⟨?_, ?_⟩
      · exact ret_iv hp.out.1 hp.out.2
      repeat' (first | exact Ext.refl _ | assumption | (with_reducible refine Ext.alloc ?_ _) | (with_reducible refine Ext.drew ?_) | (with_reducible refine Ext.drewN _ ?_) | (refine Ext.setCell ?_ (by first | exact Nat.le_refl _ | (simp; done) | (simp; omega) | omega) _) | (refine Ext.trans ?_ (by assumption)))
    · have hp := hidden (show btL 0 b = rulL 17 a b c d ∧ btH 0 b = rulH 17 a b c d from by rw [rulL_17, rulH_17, if_neg k1, if_neg k1, if_neg k2, if_neg k2]; unfold btL btH; rw [if_neg (by omega), if_neg (by omega)]; exact ⟨rfl, rfl⟩)
      have k3 : (c == d) = false := by simp [k2]
      clear k2
      have W0Y : Blk ((w.alloc (.cells #[.int .i64 c, .int .i64 d] 23)).alloc (.cells #[.int .i64 0, .int .i64 0] 23)) w.heap.size 23 [.int .i64 c, .int .i64 d] := (Blk.new w _ _).alloc _
      have W0Z : Blk ((w.alloc (.cells #[.int .i64 c, .int .i64 d] 23)).alloc (.cells #[.int .i64 0, .int .i64 0] 23)) (w.heap.size + 1) 23 [.int .i64 0, .int .i64 0] := by
        have := Blk.new (w.alloc (.cells #[.int .i64 c, .int .i64 d] 23)) [.int .i64 0, .int .i64 0] 23
        rw [World.size_alloc] at this
        exact this
      have hE0 : Ext w ((w.alloc (.cells #[.int .i64 c, .int .i64 d] 23)).alloc (.cells #[.int .i64 0, .int .i64 0] 23)) := ((Ext.refl w).alloc _).alloc _
      obtain ⟨V0, hV0⟩ : ∃ V, (w.alloc (.cells #[.int .i64 c, .int .i64 d] 23)).alloc (.cells #[.int .i64 0, .int .i64 0] 23) = V := ⟨_, rfl⟩
      go_enter Try.func32, Try.ntmps32
      go_upto_region 1 with fail
      rw [hV0] at W0Y W0Z hE0
      clear hV0
      have qY0 := W0Y.cell 0 _ rfl
      have qY1 := W0Y.cell 1 _ rfl
      have qZ0 := W0Z.cell 0 _ rfl
      have qZ1 := W0Z.cell 1 _ rfl
      have fZ0 := W0Z.frozen 0
      have fZ1 := W0Z.frozen 1
      go_quiet (fail)
      have W1Y := W0Y.drewN nq
      have W1Z := W0Z.drewN nq
      have hE1 := hE0.drewN nq
      obtain ⟨V1, hV1⟩ : ∃ V, V0.drewN nq = V := ⟨_, rfl⟩
      rw [hV1] at W1Y W1Z hE1 ⊢
      clear hV1 W0Y W0Z hE0
      clear qY0 qY1 qZ0 qZ1 fZ0 fZ1
      have qY0 := W1Y.cell 0 _ rfl
      have qY1 := W1Y.cell 1 _ rfl
      have qZ0 := W1Z.cell 0 _ rfl
      have qZ1 := W1Z.cell 1 _ rfl
      have fZ0 := W1Z.frozen 0
      have fZ1 := W1Z.frozen 1
      go_wp2_with fail
      refine (between_any (0) (b) _).mono ?_
      rintro e2 V2 ⟨rfl, g2⟩
      have W2Y := W1Y.ext g2
      have W2Z := W1Z.ext g2
      have hE2 := hE1.trans g2
      clear W1Y W1Z hE1 g2
      clear qY0 qY1 qZ0 qZ1 fZ0 fZ1
      have qY0 := W2Y.cell 0 _ rfl
      have qY1 := W2Y.cell 1 _ rfl
      have qZ0 := W2Z.cell 0 _ rfl
      have qZ1 := W2Z.cell 1 _ rfl
      have fZ0 := W2Z.frozen 0
      have fZ1 := W2Z.frozen 1
      go_wp2_with fail
      refine bodyPost_ret (v := .agg #[_, _]) (by simp [results, Try.results32, go_sem, *]; exact ⟨rfl, rfl⟩) rfl ⟨?_, ?_⟩
      · exact ret_iv hp.out.1 hp.out.2
      repeat' (first | exact Ext.refl _ | assumption | (with_reducible refine Ext.alloc ?_ _) | (with_reducible refine Ext.drew ?_) | (with_reducible refine Ext.drewN _ ?_) | (refine Ext.setCell ?_ (by first | exact Nat.le_refl _ | (simp; done) | (simp; omega) | omega) _) | (refine Ext.trans ?_ (by assumption)))
set_option maxHeartbeats 2000000 in
set_option maxRecDepth 100000 in
theorem rx20 (a b c d : Int) (h0 : 0 ≤ a) (h1 : a ≤ b) (h2 : b ≤ 4294967295) (h3 : 0 ≤ c) (h4 : c ≤ d) (h5 : d ≤ 4294967295) (w : World) : Calls Try.prog 32 #[.int .i64 20, .int .i64 a, .int .i64 b, .agg #[.int .i64 c, .int .i64 d]] w fun x w' => x = .returned (.agg #[.int .i64 (rulL 20 a b c d), .int .i64 (rulH 20 a b c d)]) ∧ Ext w w' := by
  rw [rulL_20, rulH_20]
  have W0Y : Blk ((w.alloc (.cells #[.int .i64 c, .int .i64 d] 23)).alloc (.cells #[.int .i64 0, .int .i64 0] 23)) w.heap.size 23 [.int .i64 c, .int .i64 d] := (Blk.new w _ _).alloc _
  have W0Z : Blk ((w.alloc (.cells #[.int .i64 c, .int .i64 d] 23)).alloc (.cells #[.int .i64 0, .int .i64 0] 23)) (w.heap.size + 1) 23 [.int .i64 0, .int .i64 0] := by
    have := Blk.new (w.alloc (.cells #[.int .i64 c, .int .i64 d] 23)) [.int .i64 0, .int .i64 0] 23
    rw [World.size_alloc] at this
    exact this
  have hE0 : Ext w ((w.alloc (.cells #[.int .i64 c, .int .i64 d] 23)).alloc (.cells #[.int .i64 0, .int .i64 0] 23)) := ((Ext.refl w).alloc _).alloc _
  obtain ⟨V0, hV0⟩ : ∃ V, (w.alloc (.cells #[.int .i64 c, .int .i64 d] 23)).alloc (.cells #[.int .i64 0, .int .i64 0] 23) = V := ⟨_, rfl⟩
  go_enter Try.func32, Try.ntmps32
  go_upto_region 1 with fail
  rw [hV0] at W0Y W0Z hE0
  clear hV0
  have qY0 := W0Y.cell 0 _ rfl
  have qY1 := W0Y.cell 1 _ rfl
  have qZ0 := W0Z.cell 0 _ rfl
  have qZ1 := W0Z.cell 1 _ rfl
  have fZ0 := W0Z.frozen 0
  have fZ1 := W0Z.frozen 1
  go_quiet (fail)
  have W1Y := W0Y.drewN nq
  have W1Z := W0Z.drewN nq
  have hE1 := hE0.drewN nq
  obtain ⟨V1, hV1⟩ : ∃ V, V0.drewN nq = V := ⟨_, rfl⟩
  rw [hV1] at W1Y W1Z hE1 ⊢
  clear hV1 W0Y W0Z hE0
  clear qY0 qY1 qZ0 qZ1 fZ0 fZ1
  have qY0 := W1Y.cell 0 _ rfl
  have qY1 := W1Y.cell 1 _ rfl
  have qZ0 := W1Z.cell 0 _ rfl
  have qZ1 := W1Z.cell 1 _ rfl
  have fZ0 := W1Z.frozen 0
  have fZ1 := W1Z.frozen 1
  go_wp2_with fail
  refine (rfull_any _).mono ?_
  rintro e2 V2 ⟨rfl, g2⟩
  have W2Y := W1Y.ext g2
  have W2Z := W1Z.ext g2
  have hE2 := hE1.trans g2
  clear W1Y W1Z hE1 g2
  clear qY0 qY1 qZ0 qZ1 fZ0 fZ1
  have qY0 := W2Y.cell 0 _ rfl
  have qY1 := W2Y.cell 1 _ rfl
  have qZ0 := W2Z.cell 0 _ rfl
  have qZ1 := W2Z.cell 1 _ rfl
  have fZ0 := W2Z.frozen 0
  have fZ1 := W2Z.frozen 1
  go_wp2_with fail
  refine bodyPost_ret (v := .agg #[_, _]) (by simp [results, Try.results32, go_sem, *]; exact ⟨rfl, rfl⟩) rfl ⟨?_, ?_⟩
  · exact rfl
  repeat' (first | exact Ext.refl _ | assumption | (with_reducible refine Ext.alloc ?_ _) | (with_reducible refine Ext.drew ?_) | (with_reducible refine Ext.drewN _ ?_) | (refine Ext.setCell ?_ (by first | exact Nat.le_refl _ | (simp; done) | (simp; omega) | omega) _) | (refine Ext.trans ?_ (by assumption)))
end Go.Proofs.Ytbpnagamcohlnaa
