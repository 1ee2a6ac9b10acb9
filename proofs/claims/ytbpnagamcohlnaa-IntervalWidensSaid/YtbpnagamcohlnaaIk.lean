/- Widen of layer 19. -/
import Derived.Test.YtbpnagamcohlnaaIj
namespace Go.Proofs.Ytbpnagamcohlnaa
open Go.RowKit
set_option linter.unusedVariables false


set_option maxHeartbeats 1000000 in
theorem widen_ln (a b c d : Int) (h1 : Ivl a b) (h2 : Ivl c d) (k1 : c < a) (k2 : ¬ b < d) (w : World) : Calls Try.prog 17 #[.agg #[.int .i64 a, .int .i64 b], .agg #[.int .i64 c, .int .i64 d]] w fun x w' => x = .returned (.agg #[.int .i64 0, .int .i64 b]) ∧ Ext w w' := by
  have W0X : Blk (((w.alloc (.cells #[.int .i64 a, .int .i64 b] 23)).alloc (.cells #[.int .i64 c, .int .i64 d] 23)).alloc (.cells #[.int .i64 0, .int .i64 0] 23)) w.heap.size 23 [.int .i64 a, .int .i64 b] := ((Blk.new w _ _).alloc _).alloc _
  have W0Y : Blk (((w.alloc (.cells #[.int .i64 a, .int .i64 b] 23)).alloc (.cells #[.int .i64 c, .int .i64 d] 23)).alloc (.cells #[.int .i64 0, .int .i64 0] 23)) (w.heap.size + 1) 23 [.int .i64 c, .int .i64 d] := by
    have := Blk.new (w.alloc (.cells #[.int .i64 a, .int .i64 b] 23)) [.int .i64 c, .int .i64 d] 23
    rw [World.size_alloc] at this
    exact this.alloc _
  have W0Z : Blk (((w.alloc (.cells #[.int .i64 a, .int .i64 b] 23)).alloc (.cells #[.int .i64 c, .int .i64 d] 23)).alloc (.cells #[.int .i64 0, .int .i64 0] 23)) (w.heap.size + 1 + 1) 23 [.int .i64 0, .int .i64 0] := by
    have := Blk.new ((w.alloc (.cells #[.int .i64 a, .int .i64 b] 23)).alloc (.cells #[.int .i64 c, .int .i64 d] 23)) [.int .i64 0, .int .i64 0] 23
    rw [World.size_alloc, World.size_alloc] at this
    exact this
  go_enter Try.func17, Try.ntmps17
  go_wp2_with fail
  refine (ordered_yes h1 h2 _).mono ?_
  rintro e1 w1 ⟨rfl, hE1⟩
  have W1X := W0X.ext hE1
  have W1Y := W0Y.ext hE1
  have W1Z := W0Z.ext hE1
  have l1X := W1X.lt
  have q1X0 := W1X.cell 0 _ rfl
  have f1X0 := W1X.frozen 0
  have q1X1 := W1X.cell 1 _ rfl
  have f1X1 := W1X.frozen 1
  have l1Y := W1Y.lt
  have q1Y0 := W1Y.cell 0 _ rfl
  have f1Y0 := W1Y.frozen 0
  have q1Y1 := W1Y.cell 1 _ rfl
  have f1Y1 := W1Y.frozen 1
  have l1Z := W1Z.lt
  have q1Z0 := W1Z.cell 0 _ rfl
  have f1Z0 := W1Z.frozen 0
  have q1Z1 := W1Z.cell 1 _ rfl
  have f1Z1 := W1Z.frozen 1
  go_wp2_with fail
  refine bodyPost_ret (v := .agg #[.int .i64 0, .int .i64 b]) (by simp [results, Try.results17, go_sem, *]) rfl ⟨rfl, ?_⟩
  repeat' (first | exact Ext.refl _ | assumption | (with_reducible refine Ext.alloc ?_ _) | (with_reducible refine Ext.drew ?_) | (with_reducible refine Ext.drewN _ ?_) | (refine Ext.setCell ?_ (by first | exact Nat.le_refl _ | (simp; done) | (simp; omega) | omega) _) | (refine Ext.trans ?_ (by assumption)))
set_option maxHeartbeats 1000000 in
theorem widen_l1 (a b c d : Int) (h1 : Ivl a b) (h2 : Ivl c d) (k1 : c < a) (k2 : b < d) (k3 : d ≤ 255) (k4 : d ≤ 65535) (k5 : d ≤ 4294967295) (w : World) : Calls Try.prog 17 #[.agg #[.int .i64 a, .int .i64 b], .agg #[.int .i64 c, .int .i64 d]] w fun x w' => x = .returned (.agg #[.int .i64 0, .int .i64 255]) ∧ Ext w w' := by
  have i0 : ∀ w, (Instr.index 61 (.agg #[.int .i64 255, .int .i64 65535, .int .i64 4294967295]) (.int .i64 0)).run Try.prog w = .ok (.int .i64 255) w := fun _ => by kernel_rfl
  have i1 : ∀ w, (Instr.index 61 (.agg #[.int .i64 255, .int .i64 65535, .int .i64 4294967295]) (.int .i64 1)).run Try.prog w = .ok (.int .i64 65535) w := fun _ => by kernel_rfl
  have i2 : ∀ w, (Instr.index 61 (.agg #[.int .i64 255, .int .i64 65535, .int .i64 4294967295]) (.int .i64 2)).run Try.prog w = .ok (.int .i64 4294967295) w := fun _ => by kernel_rfl
  have W0X : Blk (((w.alloc (.cells #[.int .i64 a, .int .i64 b] 23)).alloc (.cells #[.int .i64 c, .int .i64 d] 23)).alloc (.cells #[.int .i64 0, .int .i64 0] 23)) w.heap.size 23 [.int .i64 a, .int .i64 b] := ((Blk.new w _ _).alloc _).alloc _
  have W0Y : Blk (((w.alloc (.cells #[.int .i64 a, .int .i64 b] 23)).alloc (.cells #[.int .i64 c, .int .i64 d] 23)).alloc (.cells #[.int .i64 0, .int .i64 0] 23)) (w.heap.size + 1) 23 [.int .i64 c, .int .i64 d] := by
    have := Blk.new (w.alloc (.cells #[.int .i64 a, .int .i64 b] 23)) [.int .i64 c, .int .i64 d] 23
    rw [World.size_alloc] at this
    exact this.alloc _
  have W0Z : Blk (((w.alloc (.cells #[.int .i64 a, .int .i64 b] 23)).alloc (.cells #[.int .i64 c, .int .i64 d] 23)).alloc (.cells #[.int .i64 0, .int .i64 0] 23)) (w.heap.size + 1 + 1) 23 [.int .i64 0, .int .i64 0] := by
    have := Blk.new ((w.alloc (.cells #[.int .i64 a, .int .i64 b] 23)).alloc (.cells #[.int .i64 c, .int .i64 d] 23)) [.int .i64 0, .int .i64 0] 23
    rw [World.size_alloc, World.size_alloc] at this
    exact this
  go_enter Try.func17, Try.ntmps17
  go_wp2_with fail
  refine (ordered_yes h1 h2 _).mono ?_
  rintro e1 w1 ⟨rfl, hE1⟩
  have W1X := W0X.ext hE1
  have W1Y := W0Y.ext hE1
  have W1Z := W0Z.ext hE1
  have l1X := W1X.lt
  have q1X0 := W1X.cell 0 _ rfl
  have f1X0 := W1X.frozen 0
  have q1X1 := W1X.cell 1 _ rfl
  have f1X1 := W1X.frozen 1
  have l1Y := W1Y.lt
  have q1Y0 := W1Y.cell 0 _ rfl
  have f1Y0 := W1Y.frozen 0
  have q1Y1 := W1Y.cell 1 _ rfl
  have f1Y1 := W1Y.frozen 1
  have l1Z := W1Z.lt
  have q1Z0 := W1Z.cell 0 _ rfl
  have f1Z0 := W1Z.frozen 0
  have q1Z1 := W1Z.cell 1 _ rfl
  have f1Z1 := W1Z.frozen 1
  go_wp2_with fail
  refine wp_loop_rounds 1 ?_
  rw [rounds_succ]
  go_wp2_with fail
  refine bodyPost_ret (v := .agg #[.int .i64 0, .int .i64 255]) (by simp [results, Try.results17, go_sem, *]) rfl ⟨rfl, ?_⟩
  repeat' (first | exact Ext.refl _ | assumption | (with_reducible refine Ext.alloc ?_ _) | (with_reducible refine Ext.drew ?_) | (with_reducible refine Ext.drewN _ ?_) | (refine Ext.setCell ?_ (by first | exact Nat.le_refl _ | (simp; done) | (simp; omega) | omega) _) | (refine Ext.trans ?_ (by assumption)))
set_option maxHeartbeats 1000000 in
theorem widen_l2 (a b c d : Int) (h1 : Ivl a b) (h2 : Ivl c d) (k1 : c < a) (k2 : b < d) (k3 : ¬ d ≤ 255) (k4 : d ≤ 65535) (k5 : d ≤ 4294967295) (w : World) : Calls Try.prog 17 #[.agg #[.int .i64 a, .int .i64 b], .agg #[.int .i64 c, .int .i64 d]] w fun x w' => x = .returned (.agg #[.int .i64 0, .int .i64 65535]) ∧ Ext w w' := by
  have i0 : ∀ w, (Instr.index 61 (.agg #[.int .i64 255, .int .i64 65535, .int .i64 4294967295]) (.int .i64 0)).run Try.prog w = .ok (.int .i64 255) w := fun _ => by kernel_rfl
  have i1 : ∀ w, (Instr.index 61 (.agg #[.int .i64 255, .int .i64 65535, .int .i64 4294967295]) (.int .i64 1)).run Try.prog w = .ok (.int .i64 65535) w := fun _ => by kernel_rfl
  have i2 : ∀ w, (Instr.index 61 (.agg #[.int .i64 255, .int .i64 65535, .int .i64 4294967295]) (.int .i64 2)).run Try.prog w = .ok (.int .i64 4294967295) w := fun _ => by kernel_rfl
  have W0X : Blk (((w.alloc (.cells #[.int .i64 a, .int .i64 b] 23)).alloc (.cells #[.int .i64 c, .int .i64 d] 23)).alloc (.cells #[.int .i64 0, .int .i64 0] 23)) w.heap.size 23 [.int .i64 a, .int .i64 b] := ((Blk.new w _ _).alloc _).alloc _
  have W0Y : Blk (((w.alloc (.cells #[.int .i64 a, .int .i64 b] 23)).alloc (.cells #[.int .i64 c, .int .i64 d] 23)).alloc (.cells #[.int .i64 0, .int .i64 0] 23)) (w.heap.size + 1) 23 [.int .i64 c, .int .i64 d] := by
    have := Blk.new (w.alloc (.cells #[.int .i64 a, .int .i64 b] 23)) [.int .i64 c, .int .i64 d] 23
    rw [World.size_alloc] at this
    exact this.alloc _
  have W0Z : Blk (((w.alloc (.cells #[.int .i64 a, .int .i64 b] 23)).alloc (.cells #[.int .i64 c, .int .i64 d] 23)).alloc (.cells #[.int .i64 0, .int .i64 0] 23)) (w.heap.size + 1 + 1) 23 [.int .i64 0, .int .i64 0] := by
    have := Blk.new ((w.alloc (.cells #[.int .i64 a, .int .i64 b] 23)).alloc (.cells #[.int .i64 c, .int .i64 d] 23)) [.int .i64 0, .int .i64 0] 23
    rw [World.size_alloc, World.size_alloc] at this
    exact this
  go_enter Try.func17, Try.ntmps17
  go_wp2_with fail
  refine (ordered_yes h1 h2 _).mono ?_
  rintro e1 w1 ⟨rfl, hE1⟩
  have W1X := W0X.ext hE1
  have W1Y := W0Y.ext hE1
  have W1Z := W0Z.ext hE1
  have l1X := W1X.lt
  have q1X0 := W1X.cell 0 _ rfl
  have f1X0 := W1X.frozen 0
  have q1X1 := W1X.cell 1 _ rfl
  have f1X1 := W1X.frozen 1
  have l1Y := W1Y.lt
  have q1Y0 := W1Y.cell 0 _ rfl
  have f1Y0 := W1Y.frozen 0
  have q1Y1 := W1Y.cell 1 _ rfl
  have f1Y1 := W1Y.frozen 1
  have l1Z := W1Z.lt
  have q1Z0 := W1Z.cell 0 _ rfl
  have f1Z0 := W1Z.frozen 0
  have q1Z1 := W1Z.cell 1 _ rfl
  have f1Z1 := W1Z.frozen 1
  go_wp2_with fail
  refine wp_loop_rounds 2 ?_
  rw [rounds_succ]
  go_wp2_with fail
  rw [rounds_succ]
  go_wp2_with fail
  refine bodyPost_ret (v := .agg #[.int .i64 0, .int .i64 65535]) (by simp [results, Try.results17, go_sem, *]) rfl ⟨rfl, ?_⟩
  repeat' (first | exact Ext.refl _ | assumption | (with_reducible refine Ext.alloc ?_ _) | (with_reducible refine Ext.drew ?_) | (with_reducible refine Ext.drewN _ ?_) | (refine Ext.setCell ?_ (by first | exact Nat.le_refl _ | (simp; done) | (simp; omega) | omega) _) | (refine Ext.trans ?_ (by assumption)))
set_option maxHeartbeats 1000000 in
theorem widen_l3 (a b c d : Int) (h1 : Ivl a b) (h2 : Ivl c d) (k1 : c < a) (k2 : b < d) (k3 : ¬ d ≤ 255) (k4 : ¬ d ≤ 65535) (k5 : d ≤ 4294967295) (w : World) : Calls Try.prog 17 #[.agg #[.int .i64 a, .int .i64 b], .agg #[.int .i64 c, .int .i64 d]] w fun x w' => x = .returned (.agg #[.int .i64 0, .int .i64 4294967295]) ∧ Ext w w' := by
  have i0 : ∀ w, (Instr.index 61 (.agg #[.int .i64 255, .int .i64 65535, .int .i64 4294967295]) (.int .i64 0)).run Try.prog w = .ok (.int .i64 255) w := fun _ => by kernel_rfl
  have i1 : ∀ w, (Instr.index 61 (.agg #[.int .i64 255, .int .i64 65535, .int .i64 4294967295]) (.int .i64 1)).run Try.prog w = .ok (.int .i64 65535) w := fun _ => by kernel_rfl
  have i2 : ∀ w, (Instr.index 61 (.agg #[.int .i64 255, .int .i64 65535, .int .i64 4294967295]) (.int .i64 2)).run Try.prog w = .ok (.int .i64 4294967295) w := fun _ => by kernel_rfl
  have W0X : Blk (((w.alloc (.cells #[.int .i64 a, .int .i64 b] 23)).alloc (.cells #[.int .i64 c, .int .i64 d] 23)).alloc (.cells #[.int .i64 0, .int .i64 0] 23)) w.heap.size 23 [.int .i64 a, .int .i64 b] := ((Blk.new w _ _).alloc _).alloc _
  have W0Y : Blk (((w.alloc (.cells #[.int .i64 a, .int .i64 b] 23)).alloc (.cells #[.int .i64 c, .int .i64 d] 23)).alloc (.cells #[.int .i64 0, .int .i64 0] 23)) (w.heap.size + 1) 23 [.int .i64 c, .int .i64 d] := by
    have := Blk.new (w.alloc (.cells #[.int .i64 a, .int .i64 b] 23)) [.int .i64 c, .int .i64 d] 23
    rw [World.size_alloc] at this
    exact this.alloc _
  have W0Z : Blk (((w.alloc (.cells #[.int .i64 a, .int .i64 b] 23)).alloc (.cells #[.int .i64 c, .int .i64 d] 23)).alloc (.cells #[.int .i64 0, .int .i64 0] 23)) (w.heap.size + 1 + 1) 23 [.int .i64 0, .int .i64 0] := by
    have := Blk.new ((w.alloc (.cells #[.int .i64 a, .int .i64 b] 23)).alloc (.cells #[.int .i64 c, .int .i64 d] 23)) [.int .i64 0, .int .i64 0] 23
    rw [World.size_alloc, World.size_alloc] at this
    exact this
  go_enter Try.func17, Try.ntmps17
  go_wp2_with fail
  refine (ordered_yes h1 h2 _).mono ?_
  rintro e1 w1 ⟨rfl, hE1⟩
  have W1X := W0X.ext hE1
  have W1Y := W0Y.ext hE1
  have W1Z := W0Z.ext hE1
  have l1X := W1X.lt
  have q1X0 := W1X.cell 0 _ rfl
  have f1X0 := W1X.frozen 0
  have q1X1 := W1X.cell 1 _ rfl
  have f1X1 := W1X.frozen 1
  have l1Y := W1Y.lt
  have q1Y0 := W1Y.cell 0 _ rfl
  have f1Y0 := W1Y.frozen 0
  have q1Y1 := W1Y.cell 1 _ rfl
  have f1Y1 := W1Y.frozen 1
  have l1Z := W1Z.lt
  have q1Z0 := W1Z.cell 0 _ rfl
  have f1Z0 := W1Z.frozen 0
  have q1Z1 := W1Z.cell 1 _ rfl
  have f1Z1 := W1Z.frozen 1
  go_wp2_with fail
  refine wp_loop_rounds 3 ?_
  rw [rounds_succ]
  go_wp2_with fail
  rw [rounds_succ]
  go_wp2_with fail
  rw [rounds_succ]
  go_wp2_with fail
  refine bodyPost_ret (v := .agg #[.int .i64 0, .int .i64 4294967295]) (by simp [results, Try.results17, go_sem, *]) rfl ⟨rfl, ?_⟩
  repeat' (first | exact Ext.refl _ | assumption | (with_reducible refine Ext.alloc ?_ _) | (with_reducible refine Ext.drew ?_) | (with_reducible refine Ext.drewN _ ?_) | (refine Ext.setCell ?_ (by first | exact Nat.le_refl _ | (simp; done) | (simp; omega) | omega) _) | (refine Ext.trans ?_ (by assumption)))
set_option maxHeartbeats 1000000 in
theorem widen_sn (a b c d : Int) (h1 : Ivl a b) (h2 : Ivl c d) (k1 : ¬ c < a) (k2 : ¬ b < d) (w : World) : Calls Try.prog 17 #[.agg #[.int .i64 a, .int .i64 b], .agg #[.int .i64 c, .int .i64 d]] w fun x w' => x = .returned (.agg #[.int .i64 a, .int .i64 b]) ∧ Ext w w' := by
  have W0X : Blk (((w.alloc (.cells #[.int .i64 a, .int .i64 b] 23)).alloc (.cells #[.int .i64 c, .int .i64 d] 23)).alloc (.cells #[.int .i64 0, .int .i64 0] 23)) w.heap.size 23 [.int .i64 a, .int .i64 b] := ((Blk.new w _ _).alloc _).alloc _
  have W0Y : Blk (((w.alloc (.cells #[.int .i64 a, .int .i64 b] 23)).alloc (.cells #[.int .i64 c, .int .i64 d] 23)).alloc (.cells #[.int .i64 0, .int .i64 0] 23)) (w.heap.size + 1) 23 [.int .i64 c, .int .i64 d] := by
    have := Blk.new (w.alloc (.cells #[.int .i64 a, .int .i64 b] 23)) [.int .i64 c, .int .i64 d] 23
    rw [World.size_alloc] at this
    exact this.alloc _
  have W0Z : Blk (((w.alloc (.cells #[.int .i64 a, .int .i64 b] 23)).alloc (.cells #[.int .i64 c, .int .i64 d] 23)).alloc (.cells #[.int .i64 0, .int .i64 0] 23)) (w.heap.size + 1 + 1) 23 [.int .i64 0, .int .i64 0] := by
    have := Blk.new ((w.alloc (.cells #[.int .i64 a, .int .i64 b] 23)).alloc (.cells #[.int .i64 c, .int .i64 d] 23)) [.int .i64 0, .int .i64 0] 23
    rw [World.size_alloc, World.size_alloc] at this
    exact this
  go_enter Try.func17, Try.ntmps17
  go_wp2_with fail
  refine (ordered_yes h1 h2 _).mono ?_
  rintro e1 w1 ⟨rfl, hE1⟩
  have W1X := W0X.ext hE1
  have W1Y := W0Y.ext hE1
  have W1Z := W0Z.ext hE1
  have l1X := W1X.lt
  have q1X0 := W1X.cell 0 _ rfl
  have f1X0 := W1X.frozen 0
  have q1X1 := W1X.cell 1 _ rfl
  have f1X1 := W1X.frozen 1
  have l1Y := W1Y.lt
  have q1Y0 := W1Y.cell 0 _ rfl
  have f1Y0 := W1Y.frozen 0
  have q1Y1 := W1Y.cell 1 _ rfl
  have f1Y1 := W1Y.frozen 1
  have l1Z := W1Z.lt
  have q1Z0 := W1Z.cell 0 _ rfl
  have f1Z0 := W1Z.frozen 0
  have q1Z1 := W1Z.cell 1 _ rfl
  have f1Z1 := W1Z.frozen 1
  go_wp2_with fail
  refine bodyPost_ret (v := .agg #[.int .i64 a, .int .i64 b]) (by simp [results, Try.results17, go_sem, *]) rfl ⟨rfl, ?_⟩
  repeat' (first | exact Ext.refl _ | assumption | (with_reducible refine Ext.alloc ?_ _) | (with_reducible refine Ext.drew ?_) | (with_reducible refine Ext.drewN _ ?_) | (refine Ext.setCell ?_ (by first | exact Nat.le_refl _ | (simp; done) | (simp; omega) | omega) _) | (refine Ext.trans ?_ (by assumption)))
set_option maxHeartbeats 1000000 in
theorem widen_s1 (a b c d : Int) (h1 : Ivl a b) (h2 : Ivl c d) (k1 : ¬ c < a) (k2 : b < d) (k3 : d ≤ 255) (k4 : d ≤ 65535) (k5 : d ≤ 4294967295) (w : World) : Calls Try.prog 17 #[.agg #[.int .i64 a, .int .i64 b], .agg #[.int .i64 c, .int .i64 d]] w fun x w' => x = .returned (.agg #[.int .i64 a, .int .i64 255]) ∧ Ext w w' := by
  have i0 : ∀ w, (Instr.index 61 (.agg #[.int .i64 255, .int .i64 65535, .int .i64 4294967295]) (.int .i64 0)).run Try.prog w = .ok (.int .i64 255) w := fun _ => by kernel_rfl
  have i1 : ∀ w, (Instr.index 61 (.agg #[.int .i64 255, .int .i64 65535, .int .i64 4294967295]) (.int .i64 1)).run Try.prog w = .ok (.int .i64 65535) w := fun _ => by kernel_rfl
  have i2 : ∀ w, (Instr.index 61 (.agg #[.int .i64 255, .int .i64 65535, .int .i64 4294967295]) (.int .i64 2)).run Try.prog w = .ok (.int .i64 4294967295) w := fun _ => by kernel_rfl
  have W0X : Blk (((w.alloc (.cells #[.int .i64 a, .int .i64 b] 23)).alloc (.cells #[.int .i64 c, .int .i64 d] 23)).alloc (.cells #[.int .i64 0, .int .i64 0] 23)) w.heap.size 23 [.int .i64 a, .int .i64 b] := ((Blk.new w _ _).alloc _).alloc _
  have W0Y : Blk (((w.alloc (.cells #[.int .i64 a, .int .i64 b] 23)).alloc (.cells #[.int .i64 c, .int .i64 d] 23)).alloc (.cells #[.int .i64 0, .int .i64 0] 23)) (w.heap.size + 1) 23 [.int .i64 c, .int .i64 d] := by
    have := Blk.new (w.alloc (.cells #[.int .i64 a, .int .i64 b] 23)) [.int .i64 c, .int .i64 d] 23
    rw [World.size_alloc] at this
    exact this.alloc _
  have W0Z : Blk (((w.alloc (.cells #[.int .i64 a, .int .i64 b] 23)).alloc (.cells #[.int .i64 c, .int .i64 d] 23)).alloc (.cells #[.int .i64 0, .int .i64 0] 23)) (w.heap.size + 1 + 1) 23 [.int .i64 0, .int .i64 0] := by
    have := Blk.new ((w.alloc (.cells #[.int .i64 a, .int .i64 b] 23)).alloc (.cells #[.int .i64 c, .int .i64 d] 23)) [.int .i64 0, .int .i64 0] 23
    rw [World.size_alloc, World.size_alloc] at this
    exact this
  go_enter Try.func17, Try.ntmps17
  go_wp2_with fail
  refine (ordered_yes h1 h2 _).mono ?_
  rintro e1 w1 ⟨rfl, hE1⟩
  have W1X := W0X.ext hE1
  have W1Y := W0Y.ext hE1
  have W1Z := W0Z.ext hE1
  have l1X := W1X.lt
  have q1X0 := W1X.cell 0 _ rfl
  have f1X0 := W1X.frozen 0
  have q1X1 := W1X.cell 1 _ rfl
  have f1X1 := W1X.frozen 1
  have l1Y := W1Y.lt
  have q1Y0 := W1Y.cell 0 _ rfl
  have f1Y0 := W1Y.frozen 0
  have q1Y1 := W1Y.cell 1 _ rfl
  have f1Y1 := W1Y.frozen 1
  have l1Z := W1Z.lt
  have q1Z0 := W1Z.cell 0 _ rfl
  have f1Z0 := W1Z.frozen 0
  have q1Z1 := W1Z.cell 1 _ rfl
  have f1Z1 := W1Z.frozen 1
  go_wp2_with fail
  refine wp_loop_rounds 1 ?_
  rw [rounds_succ]
  go_wp2_with fail
  refine bodyPost_ret (v := .agg #[.int .i64 a, .int .i64 255]) (by simp [results, Try.results17, go_sem, *]) rfl ⟨rfl, ?_⟩
  repeat' (first | exact Ext.refl _ | assumption | (with_reducible refine Ext.alloc ?_ _) | (with_reducible refine Ext.drew ?_) | (with_reducible refine Ext.drewN _ ?_) | (refine Ext.setCell ?_ (by first | exact Nat.le_refl _ | (simp; done) | (simp; omega) | omega) _) | (refine Ext.trans ?_ (by assumption)))
set_option maxHeartbeats 1000000 in
theorem widen_s2 (a b c d : Int) (h1 : Ivl a b) (h2 : Ivl c d) (k1 : ¬ c < a) (k2 : b < d) (k3 : ¬ d ≤ 255) (k4 : d ≤ 65535) (k5 : d ≤ 4294967295) (w : World) : Calls Try.prog 17 #[.agg #[.int .i64 a, .int .i64 b], .agg #[.int .i64 c, .int .i64 d]] w fun x w' => x = .returned (.agg #[.int .i64 a, .int .i64 65535]) ∧ Ext w w' := by
  have i0 : ∀ w, (Instr.index 61 (.agg #[.int .i64 255, .int .i64 65535, .int .i64 4294967295]) (.int .i64 0)).run Try.prog w = .ok (.int .i64 255) w := fun _ => by kernel_rfl
  have i1 : ∀ w, (Instr.index 61 (.agg #[.int .i64 255, .int .i64 65535, .int .i64 4294967295]) (.int .i64 1)).run Try.prog w = .ok (.int .i64 65535) w := fun _ => by kernel_rfl
  have i2 : ∀ w, (Instr.index 61 (.agg #[.int .i64 255, .int .i64 65535, .int .i64 4294967295]) (.int .i64 2)).run Try.prog w = .ok (.int .i64 4294967295) w := fun _ => by kernel_rfl
  have W0X : Blk (((w.alloc (.cells #[.int .i64 a, .int .i64 b] 23)).alloc (.cells #[.int .i64 c, .int .i64 d] 23)).alloc (.cells #[.int .i64 0, .int .i64 0] 23)) w.heap.size 23 [.int .i64 a, .int .i64 b] := ((Blk.new w _ _).alloc _).alloc _
  have W0Y : Blk (((w.alloc (.cells #[.int .i64 a, .int .i64 b] 23)).alloc (.cells #[.int .i64 c, .int .i64 d] 23)).alloc (.cells #[.int .i64 0, .int .i64 0] 23)) (w.heap.size + 1) 23 [.int .i64 c, .int .i64 d] := by
    have := Blk.new (w.alloc (.cells #[.int .i64 a, .int .i64 b] 23)) [.int .i64 c, .int .i64 d] 23
    rw [World.size_alloc] at this
    exact this.alloc _
  have W0Z : Blk (((w.alloc (.cells #[.int .i64 a, .int .i64 b] 23)).alloc (.cells #[.int .i64 c, .int .i64 d] 23)).alloc (.cells #[.int .i64 0, .int .i64 0] 23)) (w.heap.size + 1 + 1) 23 [.int .i64 0, .int .i64 0] := by
    have := Blk.new ((w.alloc (.cells #[.int .i64 a, .int .i64 b] 23)).alloc (.cells #[.int .i64 c, .int .i64 d] 23)) [.int .i64 0, .int .i64 0] 23
    rw [World.size_alloc, World.size_alloc] at this
    exact this
  go_enter Try.func17, Try.ntmps17
  go_wp2_with fail
  refine (ordered_yes h1 h2 _).mono ?_
  rintro e1 w1 ⟨rfl, hE1⟩
  have W1X := W0X.ext hE1
  have W1Y := W0Y.ext hE1
  have W1Z := W0Z.ext hE1
  have l1X := W1X.lt
  have q1X0 := W1X.cell 0 _ rfl
  have f1X0 := W1X.frozen 0
  have q1X1 := W1X.cell 1 _ rfl
  have f1X1 := W1X.frozen 1
  have l1Y := W1Y.lt
  have q1Y0 := W1Y.cell 0 _ rfl
  have f1Y0 := W1Y.frozen 0
  have q1Y1 := W1Y.cell 1 _ rfl
  have f1Y1 := W1Y.frozen 1
  have l1Z := W1Z.lt
  have q1Z0 := W1Z.cell 0 _ rfl
  have f1Z0 := W1Z.frozen 0
  have q1Z1 := W1Z.cell 1 _ rfl
  have f1Z1 := W1Z.frozen 1
  go_wp2_with fail
  refine wp_loop_rounds 2 ?_
  rw [rounds_succ]
  go_wp2_with fail
  rw [rounds_succ]
  go_wp2_with fail
  refine bodyPost_ret (v := .agg #[.int .i64 a, .int .i64 65535]) (by simp [results, Try.results17, go_sem, *]) rfl ⟨rfl, ?_⟩
  repeat' (first | exact Ext.refl _ | assumption | (with_reducible refine Ext.alloc ?_ _) | (with_reducible refine Ext.drew ?_) | (with_reducible refine Ext.drewN _ ?_) | (refine Ext.setCell ?_ (by first | exact Nat.le_refl _ | (simp; done) | (simp; omega) | omega) _) | (refine Ext.trans ?_ (by assumption)))
set_option maxHeartbeats 1000000 in
theorem widen_s3 (a b c d : Int) (h1 : Ivl a b) (h2 : Ivl c d) (k1 : ¬ c < a) (k2 : b < d) (k3 : ¬ d ≤ 255) (k4 : ¬ d ≤ 65535) (k5 : d ≤ 4294967295) (w : World) : Calls Try.prog 17 #[.agg #[.int .i64 a, .int .i64 b], .agg #[.int .i64 c, .int .i64 d]] w fun x w' => x = .returned (.agg #[.int .i64 a, .int .i64 4294967295]) ∧ Ext w w' := by
  have i0 : ∀ w, (Instr.index 61 (.agg #[.int .i64 255, .int .i64 65535, .int .i64 4294967295]) (.int .i64 0)).run Try.prog w = .ok (.int .i64 255) w := fun _ => by kernel_rfl
  have i1 : ∀ w, (Instr.index 61 (.agg #[.int .i64 255, .int .i64 65535, .int .i64 4294967295]) (.int .i64 1)).run Try.prog w = .ok (.int .i64 65535) w := fun _ => by kernel_rfl
  have i2 : ∀ w, (Instr.index 61 (.agg #[.int .i64 255, .int .i64 65535, .int .i64 4294967295]) (.int .i64 2)).run Try.prog w = .ok (.int .i64 4294967295) w := fun _ => by kernel_rfl
  have W0X : Blk (((w.alloc (.cells #[.int .i64 a, .int .i64 b] 23)).alloc (.cells #[.int .i64 c, .int .i64 d] 23)).alloc (.cells #[.int .i64 0, .int .i64 0] 23)) w.heap.size 23 [.int .i64 a, .int .i64 b] := ((Blk.new w _ _).alloc _).alloc _
  have W0Y : Blk (((w.alloc (.cells #[.int .i64 a, .int .i64 b] 23)).alloc (.cells #[.int .i64 c, .int .i64 d] 23)).alloc (.cells #[.int .i64 0, .int .i64 0] 23)) (w.heap.size + 1) 23 [.int .i64 c, .int .i64 d] := by
    have := Blk.new (w.alloc (.cells #[.int .i64 a, .int .i64 b] 23)) [.int .i64 c, .int .i64 d] 23
    rw [World.size_alloc] at this
    exact this.alloc _
  have W0Z : Blk (((w.alloc (.cells #[.int .i64 a, .int .i64 b] 23)).alloc (.cells #[.int .i64 c, .int .i64 d] 23)).alloc (.cells #[.int .i64 0, .int .i64 0] 23)) (w.heap.size + 1 + 1) 23 [.int .i64 0, .int .i64 0] := by
    have := Blk.new ((w.alloc (.cells #[.int .i64 a, .int .i64 b] 23)).alloc (.cells #[.int .i64 c, .int .i64 d] 23)) [.int .i64 0, .int .i64 0] 23
    rw [World.size_alloc, World.size_alloc] at this
    exact this
  go_enter Try.func17, Try.ntmps17
  go_wp2_with fail
  refine (ordered_yes h1 h2 _).mono ?_
  rintro e1 w1 ⟨rfl, hE1⟩
  have W1X := W0X.ext hE1
  have W1Y := W0Y.ext hE1
  have W1Z := W0Z.ext hE1
  have l1X := W1X.lt
  have q1X0 := W1X.cell 0 _ rfl
  have f1X0 := W1X.frozen 0
  have q1X1 := W1X.cell 1 _ rfl
  have f1X1 := W1X.frozen 1
  have l1Y := W1Y.lt
  have q1Y0 := W1Y.cell 0 _ rfl
  have f1Y0 := W1Y.frozen 0
  have q1Y1 := W1Y.cell 1 _ rfl
  have f1Y1 := W1Y.frozen 1
  have l1Z := W1Z.lt
  have q1Z0 := W1Z.cell 0 _ rfl
  have f1Z0 := W1Z.frozen 0
  have q1Z1 := W1Z.cell 1 _ rfl
  have f1Z1 := W1Z.frozen 1
  go_wp2_with fail
  refine wp_loop_rounds 3 ?_
  rw [rounds_succ]
  go_wp2_with fail
  rw [rounds_succ]
  go_wp2_with fail
  rw [rounds_succ]
  go_wp2_with fail
  refine bodyPost_ret (v := .agg #[.int .i64 a, .int .i64 4294967295]) (by simp [results, Try.results17, go_sem, *]) rfl ⟨rfl, ?_⟩
  repeat' (first | exact Ext.refl _ | assumption | (with_reducible refine Ext.alloc ?_ _) | (with_reducible refine Ext.drew ?_) | (with_reducible refine Ext.drewN _ ?_) | (refine Ext.setCell ?_ (by first | exact Nat.le_refl _ | (simp; done) | (simp; omega) | omega) _) | (refine Ext.trans ?_ (by assumption)))
set_option maxHeartbeats 1000000 in
theorem rwiden_ln (a b c d : Int) (h1 : Ivl a b) (h2 : Ivl c d) (k1 : c < a) (k2 : ¬ b < d) (w : World) : Calls Try.prog 29 #[.agg #[.int .i64 a, .int .i64 b], .agg #[.int .i64 c, .int .i64 d]] w fun x w' => x = .returned (.agg #[.int .i64 0, .int .i64 b]) ∧ Ext w w' := by
  have W0X : Blk (((w.alloc (.cells #[.int .i64 a, .int .i64 b] 23)).alloc (.cells #[.int .i64 c, .int .i64 d] 23)).alloc (.cells #[.int .i64 0, .int .i64 0] 23)) w.heap.size 23 [.int .i64 a, .int .i64 b] := ((Blk.new w _ _).alloc _).alloc _
  have W0Y : Blk (((w.alloc (.cells #[.int .i64 a, .int .i64 b] 23)).alloc (.cells #[.int .i64 c, .int .i64 d] 23)).alloc (.cells #[.int .i64 0, .int .i64 0] 23)) (w.heap.size + 1) 23 [.int .i64 c, .int .i64 d] := by
    have := Blk.new (w.alloc (.cells #[.int .i64 a, .int .i64 b] 23)) [.int .i64 c, .int .i64 d] 23
    rw [World.size_alloc] at this
    exact this.alloc _
  have W0Z : Blk (((w.alloc (.cells #[.int .i64 a, .int .i64 b] 23)).alloc (.cells #[.int .i64 c, .int .i64 d] 23)).alloc (.cells #[.int .i64 0, .int .i64 0] 23)) (w.heap.size + 1 + 1) 23 [.int .i64 0, .int .i64 0] := by
    have := Blk.new ((w.alloc (.cells #[.int .i64 a, .int .i64 b] 23)).alloc (.cells #[.int .i64 c, .int .i64 d] 23)) [.int .i64 0, .int .i64 0] 23
    rw [World.size_alloc, World.size_alloc] at this
    exact this
  go_enter Try.func29, Try.ntmps29
  go_wp2_with fail
  refine (rcheck_yes h1 _).mono ?_
  rintro e1 w1 ⟨rfl, hE1⟩
  have W1X := W0X.ext hE1
  have W1Y := W0Y.ext hE1
  have W1Z := W0Z.ext hE1
  have l1X := W1X.lt
  have q1X0 := W1X.cell 0 _ rfl
  have f1X0 := W1X.frozen 0
  have q1X1 := W1X.cell 1 _ rfl
  have f1X1 := W1X.frozen 1
  have l1Y := W1Y.lt
  have q1Y0 := W1Y.cell 0 _ rfl
  have f1Y0 := W1Y.frozen 0
  have q1Y1 := W1Y.cell 1 _ rfl
  have f1Y1 := W1Y.frozen 1
  have l1Z := W1Z.lt
  have q1Z0 := W1Z.cell 0 _ rfl
  have f1Z0 := W1Z.frozen 0
  have q1Z1 := W1Z.cell 1 _ rfl
  have f1Z1 := W1Z.frozen 1
  go_wp2_with fail
  refine (rcheck_yes h2 _).mono ?_
  rintro e2 w2 ⟨rfl, hE2⟩
  have W2X := W1X.ext hE2
  have W2Y := W1Y.ext hE2
  have W2Z := W1Z.ext hE2
  have l2X := W2X.lt
  have q2X0 := W2X.cell 0 _ rfl
  have f2X0 := W2X.frozen 0
  have q2X1 := W2X.cell 1 _ rfl
  have f2X1 := W2X.frozen 1
  have l2Y := W2Y.lt
  have q2Y0 := W2Y.cell 0 _ rfl
  have f2Y0 := W2Y.frozen 0
  have q2Y1 := W2Y.cell 1 _ rfl
  have f2Y1 := W2Y.frozen 1
  have l2Z := W2Z.lt
  have q2Z0 := W2Z.cell 0 _ rfl
  have f2Z0 := W2Z.frozen 0
  have q2Z1 := W2Z.cell 1 _ rfl
  have f2Z1 := W2Z.frozen 1
  go_wp2_with fail
  refine bodyPost_ret (v := .agg #[.int .i64 0, .int .i64 b]) (by simp [results, Try.results29, go_sem, *]) rfl ⟨rfl, ?_⟩
  repeat' (first | exact Ext.refl _ | assumption | (with_reducible refine Ext.alloc ?_ _) | (with_reducible refine Ext.drew ?_) | (with_reducible refine Ext.drewN _ ?_) | (refine Ext.setCell ?_ (by first | exact Nat.le_refl _ | (simp; done) | (simp; omega) | omega) _) | (refine Ext.trans ?_ (by assumption)))
set_option maxHeartbeats 1000000 in
theorem rwiden_l1 (a b c d : Int) (h1 : Ivl a b) (h2 : Ivl c d) (k1 : c < a) (k2 : b < d) (k3 : d ≤ 255) (k4 : d ≤ 65535) (k5 : d ≤ 4294967295) (w : World) : Calls Try.prog 29 #[.agg #[.int .i64 a, .int .i64 b], .agg #[.int .i64 c, .int .i64 d]] w fun x w' => x = .returned (.agg #[.int .i64 0, .int .i64 255]) ∧ Ext w w' := by
  have W0X : Blk (((w.alloc (.cells #[.int .i64 a, .int .i64 b] 23)).alloc (.cells #[.int .i64 c, .int .i64 d] 23)).alloc (.cells #[.int .i64 0, .int .i64 0] 23)) w.heap.size 23 [.int .i64 a, .int .i64 b] := ((Blk.new w _ _).alloc _).alloc _
  have W0Y : Blk (((w.alloc (.cells #[.int .i64 a, .int .i64 b] 23)).alloc (.cells #[.int .i64 c, .int .i64 d] 23)).alloc (.cells #[.int .i64 0, .int .i64 0] 23)) (w.heap.size + 1) 23 [.int .i64 c, .int .i64 d] := by
    have := Blk.new (w.alloc (.cells #[.int .i64 a, .int .i64 b] 23)) [.int .i64 c, .int .i64 d] 23
    rw [World.size_alloc] at this
    exact this.alloc _
  have W0Z : Blk (((w.alloc (.cells #[.int .i64 a, .int .i64 b] 23)).alloc (.cells #[.int .i64 c, .int .i64 d] 23)).alloc (.cells #[.int .i64 0, .int .i64 0] 23)) (w.heap.size + 1 + 1) 23 [.int .i64 0, .int .i64 0] := by
    have := Blk.new ((w.alloc (.cells #[.int .i64 a, .int .i64 b] 23)).alloc (.cells #[.int .i64 c, .int .i64 d] 23)) [.int .i64 0, .int .i64 0] 23
    rw [World.size_alloc, World.size_alloc] at this
    exact this
  go_enter Try.func29, Try.ntmps29
  go_wp2_with fail
  refine (rcheck_yes h1 _).mono ?_
  rintro e1 w1 ⟨rfl, hE1⟩
  have W1X := W0X.ext hE1
  have W1Y := W0Y.ext hE1
  have W1Z := W0Z.ext hE1
  have l1X := W1X.lt
  have q1X0 := W1X.cell 0 _ rfl
  have f1X0 := W1X.frozen 0
  have q1X1 := W1X.cell 1 _ rfl
  have f1X1 := W1X.frozen 1
  have l1Y := W1Y.lt
  have q1Y0 := W1Y.cell 0 _ rfl
  have f1Y0 := W1Y.frozen 0
  have q1Y1 := W1Y.cell 1 _ rfl
  have f1Y1 := W1Y.frozen 1
  have l1Z := W1Z.lt
  have q1Z0 := W1Z.cell 0 _ rfl
  have f1Z0 := W1Z.frozen 0
  have q1Z1 := W1Z.cell 1 _ rfl
  have f1Z1 := W1Z.frozen 1
  go_wp2_with fail
  refine (rcheck_yes h2 _).mono ?_
  rintro e2 w2 ⟨rfl, hE2⟩
  have W2X := W1X.ext hE2
  have W2Y := W1Y.ext hE2
  have W2Z := W1Z.ext hE2
  have l2X := W2X.lt
  have q2X0 := W2X.cell 0 _ rfl
  have f2X0 := W2X.frozen 0
  have q2X1 := W2X.cell 1 _ rfl
  have f2X1 := W2X.frozen 1
  have l2Y := W2Y.lt
  have q2Y0 := W2Y.cell 0 _ rfl
  have f2Y0 := W2Y.frozen 0
  have q2Y1 := W2Y.cell 1 _ rfl
  have f2Y1 := W2Y.frozen 1
  have l2Z := W2Z.lt
  have q2Z0 := W2Z.cell 0 _ rfl
  have f2Z0 := W2Z.frozen 0
  have q2Z1 := W2Z.cell 1 _ rfl
  have f2Z1 := W2Z.frozen 1
  go_wp2_with fail
  refine bodyPost_ret (v := .agg #[.int .i64 0, .int .i64 255]) (by simp [results, Try.results29, go_sem, *]) rfl ⟨rfl, ?_⟩
  repeat' (first | exact Ext.refl _ | assumption | (with_reducible refine Ext.alloc ?_ _) | (with_reducible refine Ext.drew ?_) | (with_reducible refine Ext.drewN _ ?_) | (refine Ext.setCell ?_ (by first | exact Nat.le_refl _ | (simp; done) | (simp; omega) | omega) _) | (refine Ext.trans ?_ (by assumption)))
set_option maxHeartbeats 1000000 in
theorem rwiden_l2 (a b c d : Int) (h1 : Ivl a b) (h2 : Ivl c d) (k1 : c < a) (k2 : b < d) (k3 : ¬ d ≤ 255) (k4 : d ≤ 65535) (k5 : d ≤ 4294967295) (w : World) : Calls Try.prog 29 #[.agg #[.int .i64 a, .int .i64 b], .agg #[.int .i64 c, .int .i64 d]] w fun x w' => x = .returned (.agg #[.int .i64 0, .int .i64 65535]) ∧ Ext w w' := by
  have W0X : Blk (((w.alloc (.cells #[.int .i64 a, .int .i64 b] 23)).alloc (.cells #[.int .i64 c, .int .i64 d] 23)).alloc (.cells #[.int .i64 0, .int .i64 0] 23)) w.heap.size 23 [.int .i64 a, .int .i64 b] := ((Blk.new w _ _).alloc _).alloc _
  have W0Y : Blk (((w.alloc (.cells #[.int .i64 a, .int .i64 b] 23)).alloc (.cells #[.int .i64 c, .int .i64 d] 23)).alloc (.cells #[.int .i64 0, .int .i64 0] 23)) (w.heap.size + 1) 23 [.int .i64 c, .int .i64 d] := by
    have := Blk.new (w.alloc (.cells #[.int .i64 a, .int .i64 b] 23)) [.int .i64 c, .int .i64 d] 23
    rw [World.size_alloc] at this
    exact this.alloc _
  have W0Z : Blk (((w.alloc (.cells #[.int .i64 a, .int .i64 b] 23)).alloc (.cells #[.int .i64 c, .int .i64 d] 23)).alloc (.cells #[.int .i64 0, .int .i64 0] 23)) (w.heap.size + 1 + 1) 23 [.int .i64 0, .int .i64 0] := by
    have := Blk.new ((w.alloc (.cells #[.int .i64 a, .int .i64 b] 23)).alloc (.cells #[.int .i64 c, .int .i64 d] 23)) [.int .i64 0, .int .i64 0] 23
    rw [World.size_alloc, World.size_alloc] at this
    exact this
  go_enter Try.func29, Try.ntmps29
  go_wp2_with fail
  refine (rcheck_yes h1 _).mono ?_
  rintro e1 w1 ⟨rfl, hE1⟩
  have W1X := W0X.ext hE1
  have W1Y := W0Y.ext hE1
  have W1Z := W0Z.ext hE1
  have l1X := W1X.lt
  have q1X0 := W1X.cell 0 _ rfl
  have f1X0 := W1X.frozen 0
  have q1X1 := W1X.cell 1 _ rfl
  have f1X1 := W1X.frozen 1
  have l1Y := W1Y.lt
  have q1Y0 := W1Y.cell 0 _ rfl
  have f1Y0 := W1Y.frozen 0
  have q1Y1 := W1Y.cell 1 _ rfl
  have f1Y1 := W1Y.frozen 1
  have l1Z := W1Z.lt
  have q1Z0 := W1Z.cell 0 _ rfl
  have f1Z0 := W1Z.frozen 0
  have q1Z1 := W1Z.cell 1 _ rfl
  have f1Z1 := W1Z.frozen 1
  go_wp2_with fail
  refine (rcheck_yes h2 _).mono ?_
  rintro e2 w2 ⟨rfl, hE2⟩
  have W2X := W1X.ext hE2
  have W2Y := W1Y.ext hE2
  have W2Z := W1Z.ext hE2
  have l2X := W2X.lt
  have q2X0 := W2X.cell 0 _ rfl
  have f2X0 := W2X.frozen 0
  have q2X1 := W2X.cell 1 _ rfl
  have f2X1 := W2X.frozen 1
  have l2Y := W2Y.lt
  have q2Y0 := W2Y.cell 0 _ rfl
  have f2Y0 := W2Y.frozen 0
  have q2Y1 := W2Y.cell 1 _ rfl
  have f2Y1 := W2Y.frozen 1
  have l2Z := W2Z.lt
  have q2Z0 := W2Z.cell 0 _ rfl
  have f2Z0 := W2Z.frozen 0
  have q2Z1 := W2Z.cell 1 _ rfl
  have f2Z1 := W2Z.frozen 1
  go_wp2_with fail
  refine bodyPost_ret (v := .agg #[.int .i64 0, .int .i64 65535]) (by simp [results, Try.results29, go_sem, *]) rfl ⟨rfl, ?_⟩
  repeat' (first | exact Ext.refl _ | assumption | (with_reducible refine Ext.alloc ?_ _) | (with_reducible refine Ext.drew ?_) | (with_reducible refine Ext.drewN _ ?_) | (refine Ext.setCell ?_ (by first | exact Nat.le_refl _ | (simp; done) | (simp; omega) | omega) _) | (refine Ext.trans ?_ (by assumption)))
set_option maxHeartbeats 1000000 in
theorem rwiden_l3 (a b c d : Int) (h1 : Ivl a b) (h2 : Ivl c d) (k1 : c < a) (k2 : b < d) (k3 : ¬ d ≤ 255) (k4 : ¬ d ≤ 65535) (k5 : d ≤ 4294967295) (w : World) : Calls Try.prog 29 #[.agg #[.int .i64 a, .int .i64 b], .agg #[.int .i64 c, .int .i64 d]] w fun x w' => x = .returned (.agg #[.int .i64 0, .int .i64 4294967295]) ∧ Ext w w' := by
  have W0X : Blk (((w.alloc (.cells #[.int .i64 a, .int .i64 b] 23)).alloc (.cells #[.int .i64 c, .int .i64 d] 23)).alloc (.cells #[.int .i64 0, .int .i64 0] 23)) w.heap.size 23 [.int .i64 a, .int .i64 b] := ((Blk.new w _ _).alloc _).alloc _
  have W0Y : Blk (((w.alloc (.cells #[.int .i64 a, .int .i64 b] 23)).alloc (.cells #[.int .i64 c, .int .i64 d] 23)).alloc (.cells #[.int .i64 0, .int .i64 0] 23)) (w.heap.size + 1) 23 [.int .i64 c, .int .i64 d] := by
    have := Blk.new (w.alloc (.cells #[.int .i64 a, .int .i64 b] 23)) [.int .i64 c, .int .i64 d] 23
    rw [World.size_alloc] at this
    exact this.alloc _
  have W0Z : Blk (((w.alloc (.cells #[.int .i64 a, .int .i64 b] 23)).alloc (.cells #[.int .i64 c, .int .i64 d] 23)).alloc (.cells #[.int .i64 0, .int .i64 0] 23)) (w.heap.size + 1 + 1) 23 [.int .i64 0, .int .i64 0] := by
    have := Blk.new ((w.alloc (.cells #[.int .i64 a, .int .i64 b] 23)).alloc (.cells #[.int .i64 c, .int .i64 d] 23)) [.int .i64 0, .int .i64 0] 23
    rw [World.size_alloc, World.size_alloc] at this
    exact this
  go_enter Try.func29, Try.ntmps29
  go_wp2_with fail
  refine (rcheck_yes h1 _).mono ?_
  rintro e1 w1 ⟨rfl, hE1⟩
  have W1X := W0X.ext hE1
  have W1Y := W0Y.ext hE1
  have W1Z := W0Z.ext hE1
  have l1X := W1X.lt
  have q1X0 := W1X.cell 0 _ rfl
  have f1X0 := W1X.frozen 0
  have q1X1 := W1X.cell 1 _ rfl
  have f1X1 := W1X.frozen 1
  have l1Y := W1Y.lt
  have q1Y0 := W1Y.cell 0 _ rfl
  have f1Y0 := W1Y.frozen 0
  have q1Y1 := W1Y.cell 1 _ rfl
  have f1Y1 := W1Y.frozen 1
  have l1Z := W1Z.lt
  have q1Z0 := W1Z.cell 0 _ rfl
  have f1Z0 := W1Z.frozen 0
  have q1Z1 := W1Z.cell 1 _ rfl
  have f1Z1 := W1Z.frozen 1
  go_wp2_with fail
  refine (rcheck_yes h2 _).mono ?_
  rintro e2 w2 ⟨rfl, hE2⟩
  have W2X := W1X.ext hE2
  have W2Y := W1Y.ext hE2
  have W2Z := W1Z.ext hE2
  have l2X := W2X.lt
  have q2X0 := W2X.cell 0 _ rfl
  have f2X0 := W2X.frozen 0
  have q2X1 := W2X.cell 1 _ rfl
  have f2X1 := W2X.frozen 1
  have l2Y := W2Y.lt
  have q2Y0 := W2Y.cell 0 _ rfl
  have f2Y0 := W2Y.frozen 0
  have q2Y1 := W2Y.cell 1 _ rfl
  have f2Y1 := W2Y.frozen 1
  have l2Z := W2Z.lt
  have q2Z0 := W2Z.cell 0 _ rfl
  have f2Z0 := W2Z.frozen 0
  have q2Z1 := W2Z.cell 1 _ rfl
  have f2Z1 := W2Z.frozen 1
  go_wp2_with fail
  refine bodyPost_ret (v := .agg #[.int .i64 0, .int .i64 4294967295]) (by simp [results, Try.results29, go_sem, *]) rfl ⟨rfl, ?_⟩
  repeat' (first | exact Ext.refl _ | assumption | (with_reducible refine Ext.alloc ?_ _) | (with_reducible refine Ext.drew ?_) | (with_reducible refine Ext.drewN _ ?_) | (refine Ext.setCell ?_ (by first | exact Nat.le_refl _ | (simp; done) | (simp; omega) | omega) _) | (refine Ext.trans ?_ (by assumption)))
set_option maxHeartbeats 1000000 in
theorem rwiden_sn (a b c d : Int) (h1 : Ivl a b) (h2 : Ivl c d) (k1 : ¬ c < a) (k2 : ¬ b < d) (w : World) : Calls Try.prog 29 #[.agg #[.int .i64 a, .int .i64 b], .agg #[.int .i64 c, .int .i64 d]] w fun x w' => x = .returned (.agg #[.int .i64 a, .int .i64 b]) ∧ Ext w w' := by
  have W0X : Blk (((w.alloc (.cells #[.int .i64 a, .int .i64 b] 23)).alloc (.cells #[.int .i64 c, .int .i64 d] 23)).alloc (.cells #[.int .i64 0, .int .i64 0] 23)) w.heap.size 23 [.int .i64 a, .int .i64 b] := ((Blk.new w _ _).alloc _).alloc _
  have W0Y : Blk (((w.alloc (.cells #[.int .i64 a, .int .i64 b] 23)).alloc (.cells #[.int .i64 c, .int .i64 d] 23)).alloc (.cells #[.int .i64 0, .int .i64 0] 23)) (w.heap.size + 1) 23 [.int .i64 c, .int .i64 d] := by
    have := Blk.new (w.alloc (.cells #[.int .i64 a, .int .i64 b] 23)) [.int .i64 c, .int .i64 d] 23
    rw [World.size_alloc] at this
    exact this.alloc _
  have W0Z : Blk (((w.alloc (.cells #[.int .i64 a, .int .i64 b] 23)).alloc (.cells #[.int .i64 c, .int .i64 d] 23)).alloc (.cells #[.int .i64 0, .int .i64 0] 23)) (w.heap.size + 1 + 1) 23 [.int .i64 0, .int .i64 0] := by
    have := Blk.new ((w.alloc (.cells #[.int .i64 a, .int .i64 b] 23)).alloc (.cells #[.int .i64 c, .int .i64 d] 23)) [.int .i64 0, .int .i64 0] 23
    rw [World.size_alloc, World.size_alloc] at this
    exact this
  go_enter Try.func29, Try.ntmps29
  go_wp2_with fail
  refine (rcheck_yes h1 _).mono ?_
  rintro e1 w1 ⟨rfl, hE1⟩
  have W1X := W0X.ext hE1
  have W1Y := W0Y.ext hE1
  have W1Z := W0Z.ext hE1
  have l1X := W1X.lt
  have q1X0 := W1X.cell 0 _ rfl
  have f1X0 := W1X.frozen 0
  have q1X1 := W1X.cell 1 _ rfl
  have f1X1 := W1X.frozen 1
  have l1Y := W1Y.lt
  have q1Y0 := W1Y.cell 0 _ rfl
  have f1Y0 := W1Y.frozen 0
  have q1Y1 := W1Y.cell 1 _ rfl
  have f1Y1 := W1Y.frozen 1
  have l1Z := W1Z.lt
  have q1Z0 := W1Z.cell 0 _ rfl
  have f1Z0 := W1Z.frozen 0
  have q1Z1 := W1Z.cell 1 _ rfl
  have f1Z1 := W1Z.frozen 1
  go_wp2_with fail
  refine (rcheck_yes h2 _).mono ?_
  rintro e2 w2 ⟨rfl, hE2⟩
  have W2X := W1X.ext hE2
  have W2Y := W1Y.ext hE2
  have W2Z := W1Z.ext hE2
  have l2X := W2X.lt
  have q2X0 := W2X.cell 0 _ rfl
  have f2X0 := W2X.frozen 0
  have q2X1 := W2X.cell 1 _ rfl
  have f2X1 := W2X.frozen 1
  have l2Y := W2Y.lt
  have q2Y0 := W2Y.cell 0 _ rfl
  have f2Y0 := W2Y.frozen 0
  have q2Y1 := W2Y.cell 1 _ rfl
  have f2Y1 := W2Y.frozen 1
  have l2Z := W2Z.lt
  have q2Z0 := W2Z.cell 0 _ rfl
  have f2Z0 := W2Z.frozen 0
  have q2Z1 := W2Z.cell 1 _ rfl
  have f2Z1 := W2Z.frozen 1
  go_wp2_with fail
  refine bodyPost_ret (v := .agg #[.int .i64 a, .int .i64 b]) (by simp [results, Try.results29, go_sem, *]) rfl ⟨rfl, ?_⟩
  repeat' (first | exact Ext.refl _ | assumption | (with_reducible refine Ext.alloc ?_ _) | (with_reducible refine Ext.drew ?_) | (with_reducible refine Ext.drewN _ ?_) | (refine Ext.setCell ?_ (by first | exact Nat.le_refl _ | (simp; done) | (simp; omega) | omega) _) | (refine Ext.trans ?_ (by assumption)))
set_option maxHeartbeats 1000000 in
theorem rwiden_s1 (a b c d : Int) (h1 : Ivl a b) (h2 : Ivl c d) (k1 : ¬ c < a) (k2 : b < d) (k3 : d ≤ 255) (k4 : d ≤ 65535) (k5 : d ≤ 4294967295) (w : World) : Calls Try.prog 29 #[.agg #[.int .i64 a, .int .i64 b], .agg #[.int .i64 c, .int .i64 d]] w fun x w' => x = .returned (.agg #[.int .i64 a, .int .i64 255]) ∧ Ext w w' := by
  have W0X : Blk (((w.alloc (.cells #[.int .i64 a, .int .i64 b] 23)).alloc (.cells #[.int .i64 c, .int .i64 d] 23)).alloc (.cells #[.int .i64 0, .int .i64 0] 23)) w.heap.size 23 [.int .i64 a, .int .i64 b] := ((Blk.new w _ _).alloc _).alloc _
  have W0Y : Blk (((w.alloc (.cells #[.int .i64 a, .int .i64 b] 23)).alloc (.cells #[.int .i64 c, .int .i64 d] 23)).alloc (.cells #[.int .i64 0, .int .i64 0] 23)) (w.heap.size + 1) 23 [.int .i64 c, .int .i64 d] := by
    have := Blk.new (w.alloc (.cells #[.int .i64 a, .int .i64 b] 23)) [.int .i64 c, .int .i64 d] 23
    rw [World.size_alloc] at this
    exact this.alloc _
  have W0Z : Blk (((w.alloc (.cells #[.int .i64 a, .int .i64 b] 23)).alloc (.cells #[.int .i64 c, .int .i64 d] 23)).alloc (.cells #[.int .i64 0, .int .i64 0] 23)) (w.heap.size + 1 + 1) 23 [.int .i64 0, .int .i64 0] := by
    have := Blk.new ((w.alloc (.cells #[.int .i64 a, .int .i64 b] 23)).alloc (.cells #[.int .i64 c, .int .i64 d] 23)) [.int .i64 0, .int .i64 0] 23
    rw [World.size_alloc, World.size_alloc] at this
    exact this
  go_enter Try.func29, Try.ntmps29
  go_wp2_with fail
  refine (rcheck_yes h1 _).mono ?_
  rintro e1 w1 ⟨rfl, hE1⟩
  have W1X := W0X.ext hE1
  have W1Y := W0Y.ext hE1
  have W1Z := W0Z.ext hE1
  have l1X := W1X.lt
  have q1X0 := W1X.cell 0 _ rfl
  have f1X0 := W1X.frozen 0
  have q1X1 := W1X.cell 1 _ rfl
  have f1X1 := W1X.frozen 1
  have l1Y := W1Y.lt
  have q1Y0 := W1Y.cell 0 _ rfl
  have f1Y0 := W1Y.frozen 0
  have q1Y1 := W1Y.cell 1 _ rfl
  have f1Y1 := W1Y.frozen 1
  have l1Z := W1Z.lt
  have q1Z0 := W1Z.cell 0 _ rfl
  have f1Z0 := W1Z.frozen 0
  have q1Z1 := W1Z.cell 1 _ rfl
  have f1Z1 := W1Z.frozen 1
  go_wp2_with fail
  refine (rcheck_yes h2 _).mono ?_
  rintro e2 w2 ⟨rfl, hE2⟩
  have W2X := W1X.ext hE2
  have W2Y := W1Y.ext hE2
  have W2Z := W1Z.ext hE2
  have l2X := W2X.lt
  have q2X0 := W2X.cell 0 _ rfl
  have f2X0 := W2X.frozen 0
  have q2X1 := W2X.cell 1 _ rfl
  have f2X1 := W2X.frozen 1
  have l2Y := W2Y.lt
  have q2Y0 := W2Y.cell 0 _ rfl
  have f2Y0 := W2Y.frozen 0
  have q2Y1 := W2Y.cell 1 _ rfl
  have f2Y1 := W2Y.frozen 1
  have l2Z := W2Z.lt
  have q2Z0 := W2Z.cell 0 _ rfl
  have f2Z0 := W2Z.frozen 0
  have q2Z1 := W2Z.cell 1 _ rfl
  have f2Z1 := W2Z.frozen 1
  go_wp2_with fail
  refine bodyPost_ret (v := .agg #[.int .i64 a, .int .i64 255]) (by simp [results, Try.results29, go_sem, *]) rfl ⟨rfl, ?_⟩
  repeat' (first | exact Ext.refl _ | assumption | (with_reducible refine Ext.alloc ?_ _) | (with_reducible refine Ext.drew ?_) | (with_reducible refine Ext.drewN _ ?_) | (refine Ext.setCell ?_ (by first | exact Nat.le_refl _ | (simp; done) | (simp; omega) | omega) _) | (refine Ext.trans ?_ (by assumption)))
set_option maxHeartbeats 1000000 in
theorem rwiden_s2 (a b c d : Int) (h1 : Ivl a b) (h2 : Ivl c d) (k1 : ¬ c < a) (k2 : b < d) (k3 : ¬ d ≤ 255) (k4 : d ≤ 65535) (k5 : d ≤ 4294967295) (w : World) : Calls Try.prog 29 #[.agg #[.int .i64 a, .int .i64 b], .agg #[.int .i64 c, .int .i64 d]] w fun x w' => x = .returned (.agg #[.int .i64 a, .int .i64 65535]) ∧ Ext w w' := by
  have W0X : Blk (((w.alloc (.cells #[.int .i64 a, .int .i64 b] 23)).alloc (.cells #[.int .i64 c, .int .i64 d] 23)).alloc (.cells #[.int .i64 0, .int .i64 0] 23)) w.heap.size 23 [.int .i64 a, .int .i64 b] := ((Blk.new w _ _).alloc _).alloc _
  have W0Y : Blk (((w.alloc (.cells #[.int .i64 a, .int .i64 b] 23)).alloc (.cells #[.int .i64 c, .int .i64 d] 23)).alloc (.cells #[.int .i64 0, .int .i64 0] 23)) (w.heap.size + 1) 23 [.int .i64 c, .int .i64 d] := by
    have := Blk.new (w.alloc (.cells #[.int .i64 a, .int .i64 b] 23)) [.int .i64 c, .int .i64 d] 23
    rw [World.size_alloc] at this
    exact this.alloc _
  have W0Z : Blk (((w.alloc (.cells #[.int .i64 a, .int .i64 b] 23)).alloc (.cells #[.int .i64 c, .int .i64 d] 23)).alloc (.cells #[.int .i64 0, .int .i64 0] 23)) (w.heap.size + 1 + 1) 23 [.int .i64 0, .int .i64 0] := by
    have := Blk.new ((w.alloc (.cells #[.int .i64 a, .int .i64 b] 23)).alloc (.cells #[.int .i64 c, .int .i64 d] 23)) [.int .i64 0, .int .i64 0] 23
    rw [World.size_alloc, World.size_alloc] at this
    exact this
  go_enter Try.func29, Try.ntmps29
  go_wp2_with fail
  refine (rcheck_yes h1 _).mono ?_
  rintro e1 w1 ⟨rfl, hE1⟩
  have W1X := W0X.ext hE1
  have W1Y := W0Y.ext hE1
  have W1Z := W0Z.ext hE1
  have l1X := W1X.lt
  have q1X0 := W1X.cell 0 _ rfl
  have f1X0 := W1X.frozen 0
  have q1X1 := W1X.cell 1 _ rfl
  have f1X1 := W1X.frozen 1
  have l1Y := W1Y.lt
  have q1Y0 := W1Y.cell 0 _ rfl
  have f1Y0 := W1Y.frozen 0
  have q1Y1 := W1Y.cell 1 _ rfl
  have f1Y1 := W1Y.frozen 1
  have l1Z := W1Z.lt
  have q1Z0 := W1Z.cell 0 _ rfl
  have f1Z0 := W1Z.frozen 0
  have q1Z1 := W1Z.cell 1 _ rfl
  have f1Z1 := W1Z.frozen 1
  go_wp2_with fail
  refine (rcheck_yes h2 _).mono ?_
  rintro e2 w2 ⟨rfl, hE2⟩
  have W2X := W1X.ext hE2
  have W2Y := W1Y.ext hE2
  have W2Z := W1Z.ext hE2
  have l2X := W2X.lt
  have q2X0 := W2X.cell 0 _ rfl
  have f2X0 := W2X.frozen 0
  have q2X1 := W2X.cell 1 _ rfl
  have f2X1 := W2X.frozen 1
  have l2Y := W2Y.lt
  have q2Y0 := W2Y.cell 0 _ rfl
  have f2Y0 := W2Y.frozen 0
  have q2Y1 := W2Y.cell 1 _ rfl
  have f2Y1 := W2Y.frozen 1
  have l2Z := W2Z.lt
  have q2Z0 := W2Z.cell 0 _ rfl
  have f2Z0 := W2Z.frozen 0
  have q2Z1 := W2Z.cell 1 _ rfl
  have f2Z1 := W2Z.frozen 1
  go_wp2_with fail
  refine bodyPost_ret (v := .agg #[.int .i64 a, .int .i64 65535]) (by simp [results, Try.results29, go_sem, *]) rfl ⟨rfl, ?_⟩
  repeat' (first | exact Ext.refl _ | assumption | (with_reducible refine Ext.alloc ?_ _) | (with_reducible refine Ext.drew ?_) | (with_reducible refine Ext.drewN _ ?_) | (refine Ext.setCell ?_ (by first | exact Nat.le_refl _ | (simp; done) | (simp; omega) | omega) _) | (refine Ext.trans ?_ (by assumption)))
set_option maxHeartbeats 1000000 in
theorem rwiden_s3 (a b c d : Int) (h1 : Ivl a b) (h2 : Ivl c d) (k1 : ¬ c < a) (k2 : b < d) (k3 : ¬ d ≤ 255) (k4 : ¬ d ≤ 65535) (k5 : d ≤ 4294967295) (w : World) : Calls Try.prog 29 #[.agg #[.int .i64 a, .int .i64 b], .agg #[.int .i64 c, .int .i64 d]] w fun x w' => x = .returned (.agg #[.int .i64 a, .int .i64 4294967295]) ∧ Ext w w' := by
  have W0X : Blk (((w.alloc (.cells #[.int .i64 a, .int .i64 b] 23)).alloc (.cells #[.int .i64 c, .int .i64 d] 23)).alloc (.cells #[.int .i64 0, .int .i64 0] 23)) w.heap.size 23 [.int .i64 a, .int .i64 b] := ((Blk.new w _ _).alloc _).alloc _
  have W0Y : Blk (((w.alloc (.cells #[.int .i64 a, .int .i64 b] 23)).alloc (.cells #[.int .i64 c, .int .i64 d] 23)).alloc (.cells #[.int .i64 0, .int .i64 0] 23)) (w.heap.size + 1) 23 [.int .i64 c, .int .i64 d] := by
    have := Blk.new (w.alloc (.cells #[.int .i64 a, .int .i64 b] 23)) [.int .i64 c, .int .i64 d] 23
    rw [World.size_alloc] at this
    exact this.alloc _
  have W0Z : Blk (((w.alloc (.cells #[.int .i64 a, .int .i64 b] 23)).alloc (.cells #[.int .i64 c, .int .i64 d] 23)).alloc (.cells #[.int .i64 0, .int .i64 0] 23)) (w.heap.size + 1 + 1) 23 [.int .i64 0, .int .i64 0] := by
    have := Blk.new ((w.alloc (.cells #[.int .i64 a, .int .i64 b] 23)).alloc (.cells #[.int .i64 c, .int .i64 d] 23)) [.int .i64 0, .int .i64 0] 23
    rw [World.size_alloc, World.size_alloc] at this
    exact this
  go_enter Try.func29, Try.ntmps29
  go_wp2_with fail
  refine (rcheck_yes h1 _).mono ?_
  rintro e1 w1 ⟨rfl, hE1⟩
  have W1X := W0X.ext hE1
  have W1Y := W0Y.ext hE1
  have W1Z := W0Z.ext hE1
  have l1X := W1X.lt
  have q1X0 := W1X.cell 0 _ rfl
  have f1X0 := W1X.frozen 0
  have q1X1 := W1X.cell 1 _ rfl
  have f1X1 := W1X.frozen 1
  have l1Y := W1Y.lt
  have q1Y0 := W1Y.cell 0 _ rfl
  have f1Y0 := W1Y.frozen 0
  have q1Y1 := W1Y.cell 1 _ rfl
  have f1Y1 := W1Y.frozen 1
  have l1Z := W1Z.lt
  have q1Z0 := W1Z.cell 0 _ rfl
  have f1Z0 := W1Z.frozen 0
  have q1Z1 := W1Z.cell 1 _ rfl
  have f1Z1 := W1Z.frozen 1
  go_wp2_with fail
  refine (rcheck_yes h2 _).mono ?_
  rintro e2 w2 ⟨rfl, hE2⟩
  have W2X := W1X.ext hE2
  have W2Y := W1Y.ext hE2
  have W2Z := W1Z.ext hE2
  have l2X := W2X.lt
  have q2X0 := W2X.cell 0 _ rfl
  have f2X0 := W2X.frozen 0
  have q2X1 := W2X.cell 1 _ rfl
  have f2X1 := W2X.frozen 1
  have l2Y := W2Y.lt
  have q2Y0 := W2Y.cell 0 _ rfl
  have f2Y0 := W2Y.frozen 0
  have q2Y1 := W2Y.cell 1 _ rfl
  have f2Y1 := W2Y.frozen 1
  have l2Z := W2Z.lt
  have q2Z0 := W2Z.cell 0 _ rfl
  have f2Z0 := W2Z.frozen 0
  have q2Z1 := W2Z.cell 1 _ rfl
  have f2Z1 := W2Z.frozen 1
  go_wp2_with fail
  refine bodyPost_ret (v := .agg #[.int .i64 a, .int .i64 4294967295]) (by simp [results, Try.results29, go_sem, *]) rfl ⟨rfl, ?_⟩
  repeat' (first | exact Ext.refl _ | assumption | (with_reducible refine Ext.alloc ?_ _) | (with_reducible refine Ext.drew ?_) | (with_reducible refine Ext.drewN _ ?_) | (refine Ext.setCell ?_ (by first | exact Nat.le_refl _ | (simp; done) | (simp; omega) | omega) _) | (refine Ext.trans ?_ (by assumption)))
end Go.Proofs.Ytbpnagamcohlnaa
