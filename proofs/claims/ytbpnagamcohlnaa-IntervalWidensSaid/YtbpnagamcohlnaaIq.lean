/- Apply of layer 19: the errors. -/
import Derived.Test.YtbpnagamcohlnaaIo
import Derived.Deep.CutRange
import Derived.Deep.DeepCutAuto
namespace Go.Proofs.Ytbpnagamcohlnaa
open Go.RowKit
set_option linter.unusedVariables false


set_option maxHeartbeats 2000000 in
theorem iv_bad1 (a b c d : Int) (op : Int) (h1 : ¬ Ivl a b) (w : World) : Calls Try.prog 10 #[.int .i64 op, .agg #[.int .i64 a, .int .i64 b], .agg #[.int .i64 c, .int .i64 d]] w fun x w' => x = .returned (.tuple #[.agg #[.int .i64 0, .int .i64 0], .int .i64 (chk a b)]) ∧ Ext w w' := by
  have hn0 : chk a b ≠ 0 := fun e => h1 ((chk_iff a b).1 e)
  obtain ⟨n, hn⟩ : ∃ n, chk a b = n := ⟨_, rfl⟩
  have kb : (n == 0) = false := by rw [← hn]; simp [hn0]
  have kc : (n != 0) = true := by rw [← hn]; simp [hn0]
  rw [hn]
  have Hn := hidden hn
  clear hn hn0
  have W0X : Blk ((((w.alloc (.cells #[.int .i64 a, .int .i64 b] 23)).alloc (.cells #[.int .i64 c, .int .i64 d] 23)).alloc (.cells #[.int .i64 0, .int .i64 0] 23)).alloc (.cells #[.int .i64 a, .int .i64 b, .int .i64 c, .int .i64 d] 23)) w.heap.size 23 [.int .i64 a, .int .i64 b] := by
    have := Blk.new (w) [.int .i64 a, .int .i64 b] 23
    exact ((this.alloc _).alloc _).alloc _
  have W0Y : Blk ((((w.alloc (.cells #[.int .i64 a, .int .i64 b] 23)).alloc (.cells #[.int .i64 c, .int .i64 d] 23)).alloc (.cells #[.int .i64 0, .int .i64 0] 23)).alloc (.cells #[.int .i64 a, .int .i64 b, .int .i64 c, .int .i64 d] 23)) (w.heap.size + 1) 23 [.int .i64 c, .int .i64 d] := by
    have := Blk.new (w.alloc (.cells #[.int .i64 a, .int .i64 b] 23)) [.int .i64 c, .int .i64 d] 23
    rw [World.size_alloc] at this
    exact (this.alloc _).alloc _
  have W0Z : Blk ((((w.alloc (.cells #[.int .i64 a, .int .i64 b] 23)).alloc (.cells #[.int .i64 c, .int .i64 d] 23)).alloc (.cells #[.int .i64 0, .int .i64 0] 23)).alloc (.cells #[.int .i64 a, .int .i64 b, .int .i64 c, .int .i64 d] 23)) (w.heap.size + 1 + 1) 23 [.int .i64 0, .int .i64 0] := by
    have := Blk.new ((w.alloc (.cells #[.int .i64 a, .int .i64 b] 23)).alloc (.cells #[.int .i64 c, .int .i64 d] 23)) [.int .i64 0, .int .i64 0] 23
    rw [World.size_alloc, World.size_alloc] at this
    exact this.alloc _
  have W0S : Blk ((((w.alloc (.cells #[.int .i64 a, .int .i64 b] 23)).alloc (.cells #[.int .i64 c, .int .i64 d] 23)).alloc (.cells #[.int .i64 0, .int .i64 0] 23)).alloc (.cells #[.int .i64 a, .int .i64 b, .int .i64 c, .int .i64 d] 23)) (w.heap.size + 1 + 1 + 1) 23 [.int .i64 a, .int .i64 b, .int .i64 c, .int .i64 d] := by
    have := Blk.new (((w.alloc (.cells #[.int .i64 a, .int .i64 b] 23)).alloc (.cells #[.int .i64 c, .int .i64 d] 23)).alloc (.cells #[.int .i64 0, .int .i64 0] 23)) [.int .i64 a, .int .i64 b, .int .i64 c, .int .i64 d] 23
    rw [World.size_alloc, World.size_alloc, World.size_alloc] at this
    exact this
  have hE0 : Ext w ((((w.alloc (.cells #[.int .i64 a, .int .i64 b] 23)).alloc (.cells #[.int .i64 c, .int .i64 d] 23)).alloc (.cells #[.int .i64 0, .int .i64 0] 23)).alloc (.cells #[.int .i64 a, .int .i64 b, .int .i64 c, .int .i64 d] 23)) := ((((Ext.refl w).alloc _).alloc _).alloc _).alloc _
  go_enter Try.func10, Try.ntmps10
  go_wp2_with fail
  obtain ⟨V0, hV0⟩ : ∃ V, (((w.alloc (.cells #[.int .i64 a, .int .i64 b] 23)).alloc (.cells #[.int .i64 c, .int .i64 d] 23)).alloc (.cells #[.int .i64 0, .int .i64 0] 23)).alloc (.cells #[.int .i64 a, .int .i64 b, .int .i64 c, .int .i64 d] 23) = V := ⟨_, rfl⟩
  rw [hV0] at W0X W0Y W0Z W0S hE0 ⊢
  clear hV0
  have qX0 := W0X.cell 0 _ rfl
  have qX1 := W0X.cell 1 _ rfl
  have lX := W0X.lt
  have qY0 := W0Y.cell 0 _ rfl
  have qY1 := W0Y.cell 1 _ rfl
  have lY := W0Y.lt
  have qZ0 := W0Z.cell 0 _ rfl
  have qZ1 := W0Z.cell 1 _ rfl
  have fZ0 := W0Z.frozen 0
  have fZ1 := W0Z.frozen 1
  have lZ := W0Z.lt
  have qS0 := W0S.cell 0 _ rfl
  have qS1 := W0S.cell 1 _ rfl
  have qS2 := W0S.cell 2 _ rfl
  have qS3 := W0S.cell 3 _ rfl
  have lS := W0S.lt
  refine wp_loop_rounds 3 ?_
  rw [rounds_succ]
  go_wp2_with fail
  refine (check_any a b _).mono ?_
  rw [Hn.out]
  rintro e1 V1 ⟨rfl, g1⟩
  have hE1 := hE0.trans g1.past
  have W1X := W0X.ext g1.past
  have W1Y := W0Y.ext g1.past
  have W1Z := W0Z.ext g1.past
  have W1S := W0S.ext g1.past
  clear W0X W0Y W0Z W0S hE0 g1
  clear qX0 qX1 lX qY0 qY1 lY qZ0 qZ1 fZ0 fZ1 lZ qS0 qS1 qS2 qS3 lS
  have qX0 := W1X.cell 0 _ rfl
  have qX1 := W1X.cell 1 _ rfl
  have lX := W1X.lt
  have qY0 := W1Y.cell 0 _ rfl
  have qY1 := W1Y.cell 1 _ rfl
  have lY := W1Y.lt
  have qZ0 := W1Z.cell 0 _ rfl
  have qZ1 := W1Z.cell 1 _ rfl
  have fZ0 := W1Z.frozen 0
  have fZ1 := W1Z.frozen 1
  have lZ := W1Z.lt
  have qS0 := W1S.cell 0 _ rfl
  have qS1 := W1S.cell 1 _ rfl
  have qS2 := W1S.cell 2 _ rfl
  have qS3 := W1S.cell 3 _ rfl
  have lS := W1S.lt
  go_wp2_with fail
  refine bodyPost_ret (v := .tuple #[.agg #[.int .i64 0, .int .i64 0], .int .i64 n]) (by simp [results, Try.results10, go_sem, *]) rfl ⟨rfl, ?_⟩
  repeat' (first | exact Ext.refl _ | assumption | (with_reducible refine Ext.alloc ?_ _) | (with_reducible refine Ext.drew ?_) | (with_reducible refine Ext.drewN _ ?_) | (refine Ext.setCell ?_ (by first | exact Nat.le_refl _ | (simp; done) | (simp; omega) | omega) _) | (refine Ext.trans ?_ (by assumption)))
set_option maxHeartbeats 2000000 in
theorem iv_bad2 (a b c d : Int) (op : Int) (h1 : Ivl a b) (h2 : ¬ Ivl c d) (w : World) : Calls Try.prog 10 #[.int .i64 op, .agg #[.int .i64 a, .int .i64 b], .agg #[.int .i64 c, .int .i64 d]] w fun x w' => x = .returned (.tuple #[.agg #[.int .i64 0, .int .i64 0], .int .i64 (chk c d)]) ∧ Ext w w' := by
  have hn0 : chk c d ≠ 0 := fun e => h2 ((chk_iff c d).1 e)
  obtain ⟨n, hn⟩ : ∃ n, chk c d = n := ⟨_, rfl⟩
  have kb : (n == 0) = false := by rw [← hn]; simp [hn0]
  have kc : (n != 0) = true := by rw [← hn]; simp [hn0]
  rw [hn]
  have Hn := hidden hn
  clear hn hn0
  have W0X : Blk ((((w.alloc (.cells #[.int .i64 a, .int .i64 b] 23)).alloc (.cells #[.int .i64 c, .int .i64 d] 23)).alloc (.cells #[.int .i64 0, .int .i64 0] 23)).alloc (.cells #[.int .i64 a, .int .i64 b, .int .i64 c, .int .i64 d] 23)) w.heap.size 23 [.int .i64 a, .int .i64 b] := by
    have := Blk.new (w) [.int .i64 a, .int .i64 b] 23
    exact ((this.alloc _).alloc _).alloc _
  have W0Y : Blk ((((w.alloc (.cells #[.int .i64 a, .int .i64 b] 23)).alloc (.cells #[.int .i64 c, .int .i64 d] 23)).alloc (.cells #[.int .i64 0, .int .i64 0] 23)).alloc (.cells #[.int .i64 a, .int .i64 b, .int .i64 c, .int .i64 d] 23)) (w.heap.size + 1) 23 [.int .i64 c, .int .i64 d] := by
    have := Blk.new (w.alloc (.cells #[.int .i64 a, .int .i64 b] 23)) [.int .i64 c, .int .i64 d] 23
    rw [World.size_alloc] at this
    exact (this.alloc _).alloc _
  have W0Z : Blk ((((w.alloc (.cells #[.int .i64 a, .int .i64 b] 23)).alloc (.cells #[.int .i64 c, .int .i64 d] 23)).alloc (.cells #[.int .i64 0, .int .i64 0] 23)).alloc (.cells #[.int .i64 a, .int .i64 b, .int .i64 c, .int .i64 d] 23)) (w.heap.size + 1 + 1) 23 [.int .i64 0, .int .i64 0] := by
    have := Blk.new ((w.alloc (.cells #[.int .i64 a, .int .i64 b] 23)).alloc (.cells #[.int .i64 c, .int .i64 d] 23)) [.int .i64 0, .int .i64 0] 23
    rw [World.size_alloc, World.size_alloc] at this
    exact this.alloc _
  have W0S : Blk ((((w.alloc (.cells #[.int .i64 a, .int .i64 b] 23)).alloc (.cells #[.int .i64 c, .int .i64 d] 23)).alloc (.cells #[.int .i64 0, .int .i64 0] 23)).alloc (.cells #[.int .i64 a, .int .i64 b, .int .i64 c, .int .i64 d] 23)) (w.heap.size + 1 + 1 + 1) 23 [.int .i64 a, .int .i64 b, .int .i64 c, .int .i64 d] := by
    have := Blk.new (((w.alloc (.cells #[.int .i64 a, .int .i64 b] 23)).alloc (.cells #[.int .i64 c, .int .i64 d] 23)).alloc (.cells #[.int .i64 0, .int .i64 0] 23)) [.int .i64 a, .int .i64 b, .int .i64 c, .int .i64 d] 23
    rw [World.size_alloc, World.size_alloc, World.size_alloc] at this
    exact this
  have hE0 : Ext w ((((w.alloc (.cells #[.int .i64 a, .int .i64 b] 23)).alloc (.cells #[.int .i64 c, .int .i64 d] 23)).alloc (.cells #[.int .i64 0, .int .i64 0] 23)).alloc (.cells #[.int .i64 a, .int .i64 b, .int .i64 c, .int .i64 d] 23)) := ((((Ext.refl w).alloc _).alloc _).alloc _).alloc _
  go_enter Try.func10, Try.ntmps10
  go_wp2_with fail
  obtain ⟨V0, hV0⟩ : ∃ V, (((w.alloc (.cells #[.int .i64 a, .int .i64 b] 23)).alloc (.cells #[.int .i64 c, .int .i64 d] 23)).alloc (.cells #[.int .i64 0, .int .i64 0] 23)).alloc (.cells #[.int .i64 a, .int .i64 b, .int .i64 c, .int .i64 d] 23) = V := ⟨_, rfl⟩
  rw [hV0] at W0X W0Y W0Z W0S hE0 ⊢
  clear hV0
  have qX0 := W0X.cell 0 _ rfl
  have qX1 := W0X.cell 1 _ rfl
  have lX := W0X.lt
  have qY0 := W0Y.cell 0 _ rfl
  have qY1 := W0Y.cell 1 _ rfl
  have lY := W0Y.lt
  have qZ0 := W0Z.cell 0 _ rfl
  have qZ1 := W0Z.cell 1 _ rfl
  have fZ0 := W0Z.frozen 0
  have fZ1 := W0Z.frozen 1
  have lZ := W0Z.lt
  have qS0 := W0S.cell 0 _ rfl
  have qS1 := W0S.cell 1 _ rfl
  have qS2 := W0S.cell 2 _ rfl
  have qS3 := W0S.cell 3 _ rfl
  have lS := W0S.lt
  refine wp_loop_rounds 3 ?_
  rw [rounds_succ]
  go_wp2_with fail
  refine (check_yes h1 _).mono ?_
  rintro e1 V1 ⟨rfl, g1⟩
  have hE1 := hE0.trans g1.past
  have W1X := W0X.ext g1.past
  have W1Y := W0Y.ext g1.past
  have W1Z := W0Z.ext g1.past
  have W1S := W0S.ext g1.past
  clear W0X W0Y W0Z W0S hE0 g1
  clear qX0 qX1 lX qY0 qY1 lY qZ0 qZ1 fZ0 fZ1 lZ qS0 qS1 qS2 qS3 lS
  have qX0 := W1X.cell 0 _ rfl
  have qX1 := W1X.cell 1 _ rfl
  have lX := W1X.lt
  have qY0 := W1Y.cell 0 _ rfl
  have qY1 := W1Y.cell 1 _ rfl
  have lY := W1Y.lt
  have qZ0 := W1Z.cell 0 _ rfl
  have qZ1 := W1Z.cell 1 _ rfl
  have fZ0 := W1Z.frozen 0
  have fZ1 := W1Z.frozen 1
  have lZ := W1Z.lt
  have qS0 := W1S.cell 0 _ rfl
  have qS1 := W1S.cell 1 _ rfl
  have qS2 := W1S.cell 2 _ rfl
  have qS3 := W1S.cell 3 _ rfl
  have lS := W1S.lt
  go_wp2_with fail
  rw [rounds_succ]
  go_wp2_with fail
  refine (check_any c d _).mono ?_
  rw [Hn.out]
  rintro e2 V2 ⟨rfl, g2⟩
  have hE2 := hE1.trans g2.past
  have W2X := W1X.ext g2.past
  have W2Y := W1Y.ext g2.past
  have W2Z := W1Z.ext g2.past
  have W2S := W1S.ext g2.past
  clear W1X W1Y W1Z W1S hE1 g2
  clear qX0 qX1 lX qY0 qY1 lY qZ0 qZ1 fZ0 fZ1 lZ qS0 qS1 qS2 qS3 lS
  have qX0 := W2X.cell 0 _ rfl
  have qX1 := W2X.cell 1 _ rfl
  have lX := W2X.lt
  have qY0 := W2Y.cell 0 _ rfl
  have qY1 := W2Y.cell 1 _ rfl
  have lY := W2Y.lt
  have qZ0 := W2Z.cell 0 _ rfl
  have qZ1 := W2Z.cell 1 _ rfl
  have fZ0 := W2Z.frozen 0
  have fZ1 := W2Z.frozen 1
  have lZ := W2Z.lt
  have qS0 := W2S.cell 0 _ rfl
  have qS1 := W2S.cell 1 _ rfl
  have qS2 := W2S.cell 2 _ rfl
  have qS3 := W2S.cell 3 _ rfl
  have lS := W2S.lt
  go_wp2_with fail
  refine bodyPost_ret (v := .tuple #[.agg #[.int .i64 0, .int .i64 0], .int .i64 n]) (by simp [results, Try.results10, go_sem, *]) rfl ⟨rfl, ?_⟩
  repeat' (first | exact Ext.refl _ | assumption | (with_reducible refine Ext.alloc ?_ _) | (with_reducible refine Ext.drew ?_) | (with_reducible refine Ext.drewN _ ?_) | (refine Ext.setCell ?_ (by first | exact Nat.le_refl _ | (simp; done) | (simp; omega) | omega) _) | (refine Ext.trans ?_ (by assumption)))
set_option maxHeartbeats 2000000 in
theorem iv_arg (a b c d : Int) (op : Int) (h1 : Ivl a b) (h2 : Ivl c d) (hx : op < 8 ∨ 26 < op) (w : World) : Calls Try.prog 10 #[.int .i64 op, .agg #[.int .i64 a, .int .i64 b], .agg #[.int .i64 c, .int .i64 d]] w fun x w' => x = .returned (.tuple #[.agg #[.int .i64 0, .int .i64 0], .int .i64 1]) ∧ Ext w w' := by
  have hl := fun w => rul_none w op (by omega)
  have hl := hidden hl
  rcases hx with hx | hx
  · have k1 : op < 21 := by omega
    have W0X : Blk ((((w.alloc (.cells #[.int .i64 a, .int .i64 b] 23)).alloc (.cells #[.int .i64 c, .int .i64 d] 23)).alloc (.cells #[.int .i64 0, .int .i64 0] 23)).alloc (.cells #[.int .i64 a, .int .i64 b, .int .i64 c, .int .i64 d] 23)) w.heap.size 23 [.int .i64 a, .int .i64 b] := by
      have := Blk.new (w) [.int .i64 a, .int .i64 b] 23
      exact ((this.alloc _).alloc _).alloc _
    have W0Y : Blk ((((w.alloc (.cells #[.int .i64 a, .int .i64 b] 23)).alloc (.cells #[.int .i64 c, .int .i64 d] 23)).alloc (.cells #[.int .i64 0, .int .i64 0] 23)).alloc (.cells #[.int .i64 a, .int .i64 b, .int .i64 c, .int .i64 d] 23)) (w.heap.size + 1) 23 [.int .i64 c, .int .i64 d] := by
      have := Blk.new (w.alloc (.cells #[.int .i64 a, .int .i64 b] 23)) [.int .i64 c, .int .i64 d] 23
      rw [World.size_alloc] at this
      exact (this.alloc _).alloc _
    have W0Z : Blk ((((w.alloc (.cells #[.int .i64 a, .int .i64 b] 23)).alloc (.cells #[.int .i64 c, .int .i64 d] 23)).alloc (.cells #[.int .i64 0, .int .i64 0] 23)).alloc (.cells #[.int .i64 a, .int .i64 b, .int .i64 c, .int .i64 d] 23)) (w.heap.size + 1 + 1) 23 [.int .i64 0, .int .i64 0] := by
      have := Blk.new ((w.alloc (.cells #[.int .i64 a, .int .i64 b] 23)).alloc (.cells #[.int .i64 c, .int .i64 d] 23)) [.int .i64 0, .int .i64 0] 23
      rw [World.size_alloc, World.size_alloc] at this
      exact this.alloc _
    have W0S : Blk ((((w.alloc (.cells #[.int .i64 a, .int .i64 b] 23)).alloc (.cells #[.int .i64 c, .int .i64 d] 23)).alloc (.cells #[.int .i64 0, .int .i64 0] 23)).alloc (.cells #[.int .i64 a, .int .i64 b, .int .i64 c, .int .i64 d] 23)) (w.heap.size + 1 + 1 + 1) 23 [.int .i64 a, .int .i64 b, .int .i64 c, .int .i64 d] := by
      have := Blk.new (((w.alloc (.cells #[.int .i64 a, .int .i64 b] 23)).alloc (.cells #[.int .i64 c, .int .i64 d] 23)).alloc (.cells #[.int .i64 0, .int .i64 0] 23)) [.int .i64 a, .int .i64 b, .int .i64 c, .int .i64 d] 23
      rw [World.size_alloc, World.size_alloc, World.size_alloc] at this
      exact this
    have hE0 : Ext w ((((w.alloc (.cells #[.int .i64 a, .int .i64 b] 23)).alloc (.cells #[.int .i64 c, .int .i64 d] 23)).alloc (.cells #[.int .i64 0, .int .i64 0] 23)).alloc (.cells #[.int .i64 a, .int .i64 b, .int .i64 c, .int .i64 d] 23)) := ((((Ext.refl w).alloc _).alloc _).alloc _).alloc _
    go_enter Try.func10, Try.ntmps10
    go_wp2_with fail
    obtain ⟨V0, hV0⟩ : ∃ V, (((w.alloc (.cells #[.int .i64 a, .int .i64 b] 23)).alloc (.cells #[.int .i64 c, .int .i64 d] 23)).alloc (.cells #[.int .i64 0, .int .i64 0] 23)).alloc (.cells #[.int .i64 a, .int .i64 b, .int .i64 c, .int .i64 d] 23) = V := ⟨_, rfl⟩
    rw [hV0] at W0X W0Y W0Z W0S hE0 ⊢
    clear hV0
    have qX0 := W0X.cell 0 _ rfl
    have qX1 := W0X.cell 1 _ rfl
    have lX := W0X.lt
    have qY0 := W0Y.cell 0 _ rfl
    have qY1 := W0Y.cell 1 _ rfl
    have lY := W0Y.lt
    have qZ0 := W0Z.cell 0 _ rfl
    have qZ1 := W0Z.cell 1 _ rfl
    have fZ0 := W0Z.frozen 0
    have fZ1 := W0Z.frozen 1
    have lZ := W0Z.lt
    have qS0 := W0S.cell 0 _ rfl
    have qS1 := W0S.cell 1 _ rfl
    have qS2 := W0S.cell 2 _ rfl
    have qS3 := W0S.cell 3 _ rfl
    have lS := W0S.lt
    refine wp_loop_rounds 3 ?_
    rw [rounds_succ]
    go_wp2_with fail
    refine (check_yes h1 _).mono ?_
    rintro e1 V1 ⟨rfl, g1⟩
    have hE1 := hE0.trans g1.past
    have W1X := W0X.ext g1.past
    have W1Y := W0Y.ext g1.past
    have W1Z := W0Z.ext g1.past
    have W1S := W0S.ext g1.past
    clear W0X W0Y W0Z W0S hE0 g1
    clear qX0 qX1 lX qY0 qY1 lY qZ0 qZ1 fZ0 fZ1 lZ qS0 qS1 qS2 qS3 lS
    have qX0 := W1X.cell 0 _ rfl
    have qX1 := W1X.cell 1 _ rfl
    have lX := W1X.lt
    have qY0 := W1Y.cell 0 _ rfl
    have qY1 := W1Y.cell 1 _ rfl
    have lY := W1Y.lt
    have qZ0 := W1Z.cell 0 _ rfl
    have qZ1 := W1Z.cell 1 _ rfl
    have fZ0 := W1Z.frozen 0
    have fZ1 := W1Z.frozen 1
    have lZ := W1Z.lt
    have qS0 := W1S.cell 0 _ rfl
    have qS1 := W1S.cell 1 _ rfl
    have qS2 := W1S.cell 2 _ rfl
    have qS3 := W1S.cell 3 _ rfl
    have lS := W1S.lt
    go_wp2_with fail
    rw [rounds_succ]
    go_wp2_with fail
    refine (check_yes h2 _).mono ?_
    rintro e2 V2 ⟨rfl, g2⟩
    have hE2 := hE1.trans g2.past
    have W2X := W1X.ext g2.past
    have W2Y := W1Y.ext g2.past
    have W2Z := W1Z.ext g2.past
    have W2S := W1S.ext g2.past
    clear W1X W1Y W1Z W1S hE1 g2
    clear qX0 qX1 lX qY0 qY1 lY qZ0 qZ1 fZ0 fZ1 lZ qS0 qS1 qS2 qS3 lS
    have qX0 := W2X.cell 0 _ rfl
    have qX1 := W2X.cell 1 _ rfl
    have lX := W2X.lt
    have qY0 := W2Y.cell 0 _ rfl
    have qY1 := W2Y.cell 1 _ rfl
    have lY := W2Y.lt
    have qZ0 := W2Z.cell 0 _ rfl
    have qZ1 := W2Z.cell 1 _ rfl
    have fZ0 := W2Z.frozen 0
    have fZ1 := W2Z.frozen 1
    have lZ := W2Z.lt
    have qS0 := W2S.cell 0 _ rfl
    have qS1 := W2S.cell 1 _ rfl
    have qS2 := W2S.cell 2 _ rfl
    have qS3 := W2S.cell 3 _ rfl
    have lS := W2S.lt
    go_wp2_with fail
    rw [rounds_succ]
    go_wp2_with fail
    refine (rules_any _).mono ?_
    rintro e3 w3 ⟨rfl, rfl⟩
    have hlk := hl.out V2
    have hE3 := hE2.alloc (tblObj rulT)
    have W3X := W2X.alloc (tblObj rulT)
    have W3Y := W2Y.alloc (tblObj rulT)
    have W3Z := W2Z.alloc (tblObj rulT)
    have W3S := W2S.alloc (tblObj rulT)
    clear W2X W2Y W2Z W2S hE2 hl
    clear qX0 qX1 lX qY0 qY1 lY qZ0 qZ1 fZ0 fZ1 lZ qS0 qS1 qS2 qS3 lS
    obtain ⟨V3, hV3⟩ : ∃ V, V2.alloc (tblObj rulT) = V := ⟨_, rfl⟩
    rw [hV3] at hlk hE3 W3X W3Y W3Z W3S ⊢
    clear hV3
    have qX0 := W3X.cell 0 _ rfl
    have qX1 := W3X.cell 1 _ rfl
    have lX := W3X.lt
    have qY0 := W3Y.cell 0 _ rfl
    have qY1 := W3Y.cell 1 _ rfl
    have lY := W3Y.lt
    have qZ0 := W3Z.cell 0 _ rfl
    have qZ1 := W3Z.cell 1 _ rfl
    have fZ0 := W3Z.frozen 0
    have fZ1 := W3Z.frozen 1
    have lZ := W3Z.lt
    have qS0 := W3S.cell 0 _ rfl
    have qS1 := W3S.cell 1 _ rfl
    have qS2 := W3S.cell 2 _ rfl
    have qS3 := W3S.cell 3 _ rfl
    have lS := W3S.lt
    go_wp2_with fail
    go_wp2_with fail
    refine bodyPost_ret (v := .tuple #[.agg #[.int .i64 0, .int .i64 0], .int .i64 1]) (by simp [results, Try.results10, go_sem, *]) rfl ⟨rfl, ?_⟩
    repeat' (first | exact Ext.refl _ | assumption | (with_reducible refine Ext.alloc ?_ _) | (with_reducible refine Ext.drew ?_) | (with_reducible refine Ext.drewN _ ?_) | (refine Ext.setCell ?_ (by first | exact Nat.le_refl _ | (simp; done) | (simp; omega) | omega) _) | (refine Ext.trans ?_ (by assumption)))
  · have k1 : ¬ op < 21 := by omega
    have W0X : Blk ((((w.alloc (.cells #[.int .i64 a, .int .i64 b] 23)).alloc (.cells #[.int .i64 c, .int .i64 d] 23)).alloc (.cells #[.int .i64 0, .int .i64 0] 23)).alloc (.cells #[.int .i64 a, .int .i64 b, .int .i64 c, .int .i64 d] 23)) w.heap.size 23 [.int .i64 a, .int .i64 b] := by
      have := Blk.new (w) [.int .i64 a, .int .i64 b] 23
      exact ((this.alloc _).alloc _).alloc _
    have W0Y : Blk ((((w.alloc (.cells #[.int .i64 a, .int .i64 b] 23)).alloc (.cells #[.int .i64 c, .int .i64 d] 23)).alloc (.cells #[.int .i64 0, .int .i64 0] 23)).alloc (.cells #[.int .i64 a, .int .i64 b, .int .i64 c, .int .i64 d] 23)) (w.heap.size + 1) 23 [.int .i64 c, .int .i64 d] := by
      have := Blk.new (w.alloc (.cells #[.int .i64 a, .int .i64 b] 23)) [.int .i64 c, .int .i64 d] 23
      rw [World.size_alloc] at this
      exact (this.alloc _).alloc _
    have W0Z : Blk ((((w.alloc (.cells #[.int .i64 a, .int .i64 b] 23)).alloc (.cells #[.int .i64 c, .int .i64 d] 23)).alloc (.cells #[.int .i64 0, .int .i64 0] 23)).alloc (.cells #[.int .i64 a, .int .i64 b, .int .i64 c, .int .i64 d] 23)) (w.heap.size + 1 + 1) 23 [.int .i64 0, .int .i64 0] := by
      have := Blk.new ((w.alloc (.cells #[.int .i64 a, .int .i64 b] 23)).alloc (.cells #[.int .i64 c, .int .i64 d] 23)) [.int .i64 0, .int .i64 0] 23
      rw [World.size_alloc, World.size_alloc] at this
      exact this.alloc _
    have W0S : Blk ((((w.alloc (.cells #[.int .i64 a, .int .i64 b] 23)).alloc (.cells #[.int .i64 c, .int .i64 d] 23)).alloc (.cells #[.int .i64 0, .int .i64 0] 23)).alloc (.cells #[.int .i64 a, .int .i64 b, .int .i64 c, .int .i64 d] 23)) (w.heap.size + 1 + 1 + 1) 23 [.int .i64 a, .int .i64 b, .int .i64 c, .int .i64 d] := by
      have := Blk.new (((w.alloc (.cells #[.int .i64 a, .int .i64 b] 23)).alloc (.cells #[.int .i64 c, .int .i64 d] 23)).alloc (.cells #[.int .i64 0, .int .i64 0] 23)) [.int .i64 a, .int .i64 b, .int .i64 c, .int .i64 d] 23
      rw [World.size_alloc, World.size_alloc, World.size_alloc] at this
      exact this
    have hE0 : Ext w ((((w.alloc (.cells #[.int .i64 a, .int .i64 b] 23)).alloc (.cells #[.int .i64 c, .int .i64 d] 23)).alloc (.cells #[.int .i64 0, .int .i64 0] 23)).alloc (.cells #[.int .i64 a, .int .i64 b, .int .i64 c, .int .i64 d] 23)) := ((((Ext.refl w).alloc _).alloc _).alloc _).alloc _
    go_enter Try.func10, Try.ntmps10
    go_wp2_with fail
    obtain ⟨V0, hV0⟩ : ∃ V, (((w.alloc (.cells #[.int .i64 a, .int .i64 b] 23)).alloc (.cells #[.int .i64 c, .int .i64 d] 23)).alloc (.cells #[.int .i64 0, .int .i64 0] 23)).alloc (.cells #[.int .i64 a, .int .i64 b, .int .i64 c, .int .i64 d] 23) = V := ⟨_, rfl⟩
    rw [hV0] at W0X W0Y W0Z W0S hE0 ⊢
    clear hV0
    have qX0 := W0X.cell 0 _ rfl
    have qX1 := W0X.cell 1 _ rfl
    have lX := W0X.lt
    have qY0 := W0Y.cell 0 _ rfl
    have qY1 := W0Y.cell 1 _ rfl
    have lY := W0Y.lt
    have qZ0 := W0Z.cell 0 _ rfl
    have qZ1 := W0Z.cell 1 _ rfl
    have fZ0 := W0Z.frozen 0
    have fZ1 := W0Z.frozen 1
    have lZ := W0Z.lt
    have qS0 := W0S.cell 0 _ rfl
    have qS1 := W0S.cell 1 _ rfl
    have qS2 := W0S.cell 2 _ rfl
    have qS3 := W0S.cell 3 _ rfl
    have lS := W0S.lt
    refine wp_loop_rounds 3 ?_
    rw [rounds_succ]
    go_wp2_with fail
    refine (check_yes h1 _).mono ?_
    rintro e1 V1 ⟨rfl, g1⟩
    have hE1 := hE0.trans g1.past
    have W1X := W0X.ext g1.past
    have W1Y := W0Y.ext g1.past
    have W1Z := W0Z.ext g1.past
    have W1S := W0S.ext g1.past
    clear W0X W0Y W0Z W0S hE0 g1
    clear qX0 qX1 lX qY0 qY1 lY qZ0 qZ1 fZ0 fZ1 lZ qS0 qS1 qS2 qS3 lS
    have qX0 := W1X.cell 0 _ rfl
    have qX1 := W1X.cell 1 _ rfl
    have lX := W1X.lt
    have qY0 := W1Y.cell 0 _ rfl
    have qY1 := W1Y.cell 1 _ rfl
    have lY := W1Y.lt
    have qZ0 := W1Z.cell 0 _ rfl
    have qZ1 := W1Z.cell 1 _ rfl
    have fZ0 := W1Z.frozen 0
    have fZ1 := W1Z.frozen 1
    have lZ := W1Z.lt
    have qS0 := W1S.cell 0 _ rfl
    have qS1 := W1S.cell 1 _ rfl
    have qS2 := W1S.cell 2 _ rfl
    have qS3 := W1S.cell 3 _ rfl
    have lS := W1S.lt
    go_wp2_with fail
    rw [rounds_succ]
    go_wp2_with fail
    refine (check_yes h2 _).mono ?_
    rintro e2 V2 ⟨rfl, g2⟩
    have hE2 := hE1.trans g2.past
    have W2X := W1X.ext g2.past
    have W2Y := W1Y.ext g2.past
    have W2Z := W1Z.ext g2.past
    have W2S := W1S.ext g2.past
    clear W1X W1Y W1Z W1S hE1 g2
    clear qX0 qX1 lX qY0 qY1 lY qZ0 qZ1 fZ0 fZ1 lZ qS0 qS1 qS2 qS3 lS
    have qX0 := W2X.cell 0 _ rfl
    have qX1 := W2X.cell 1 _ rfl
    have lX := W2X.lt
    have qY0 := W2Y.cell 0 _ rfl
    have qY1 := W2Y.cell 1 _ rfl
    have lY := W2Y.lt
    have qZ0 := W2Z.cell 0 _ rfl
    have qZ1 := W2Z.cell 1 _ rfl
    have fZ0 := W2Z.frozen 0
    have fZ1 := W2Z.frozen 1
    have lZ := W2Z.lt
    have qS0 := W2S.cell 0 _ rfl
    have qS1 := W2S.cell 1 _ rfl
    have qS2 := W2S.cell 2 _ rfl
    have qS3 := W2S.cell 3 _ rfl
    have lS := W2S.lt
    go_wp2_with fail
    rw [rounds_succ]
    go_wp2_with fail
    refine (rules_any _).mono ?_
    rintro e3 w3 ⟨rfl, rfl⟩
    have hlk := hl.out V2
    have hE3 := hE2.alloc (tblObj rulT)
    have W3X := W2X.alloc (tblObj rulT)
    have W3Y := W2Y.alloc (tblObj rulT)
    have W3Z := W2Z.alloc (tblObj rulT)
    have W3S := W2S.alloc (tblObj rulT)
    clear W2X W2Y W2Z W2S hE2 hl
    clear qX0 qX1 lX qY0 qY1 lY qZ0 qZ1 fZ0 fZ1 lZ qS0 qS1 qS2 qS3 lS
    obtain ⟨V3, hV3⟩ : ∃ V, V2.alloc (tblObj rulT) = V := ⟨_, rfl⟩
    rw [hV3] at hlk hE3 W3X W3Y W3Z W3S ⊢
    clear hV3
    have qX0 := W3X.cell 0 _ rfl
    have qX1 := W3X.cell 1 _ rfl
    have lX := W3X.lt
    have qY0 := W3Y.cell 0 _ rfl
    have qY1 := W3Y.cell 1 _ rfl
    have lY := W3Y.lt
    have qZ0 := W3Z.cell 0 _ rfl
    have qZ1 := W3Z.cell 1 _ rfl
    have fZ0 := W3Z.frozen 0
    have fZ1 := W3Z.frozen 1
    have lZ := W3Z.lt
    have qS0 := W3S.cell 0 _ rfl
    have qS1 := W3S.cell 1 _ rfl
    have qS2 := W3S.cell 2 _ rfl
    have qS3 := W3S.cell 3 _ rfl
    have lS := W3S.lt
    go_wp2_with fail
    go_wp2_with fail
    refine bodyPost_ret (v := .tuple #[.agg #[.int .i64 0, .int .i64 0], .int .i64 1]) (by simp [results, Try.results10, go_sem, *]) rfl ⟨rfl, ?_⟩
    repeat' (first | exact Ext.refl _ | assumption | (with_reducible refine Ext.alloc ?_ _) | (with_reducible refine Ext.drew ?_) | (with_reducible refine Ext.drewN _ ?_) | (refine Ext.setCell ?_ (by first | exact Nat.le_refl _ | (simp; done) | (simp; omega) | omega) _) | (refine Ext.trans ?_ (by assumption)))
set_option maxHeartbeats 2000000 in
theorem iv_cmp (a b c d : Int) (op : Int) (h1 : Ivl a b) (h2 : Ivl c d) (hx : 21 ≤ op) (hy : op ≤ 26) (w : World) : Calls Try.prog 10 #[.int .i64 op, .agg #[.int .i64 a, .int .i64 b], .agg #[.int .i64 c, .int .i64 d]] w fun x w' => x = .returned (.tuple #[.agg #[.int .i64 0, .int .i64 1], .int .i64 0]) ∧ Ext w w' := by
  have hl := fun w => rul_none w op (by omega)
  have hl := hidden hl
  have k1 : ¬ op < 21 := by omega
  have k2 : ¬ 26 < op := by omega
  have W0X : Blk ((((w.alloc (.cells #[.int .i64 a, .int .i64 b] 23)).alloc (.cells #[.int .i64 c, .int .i64 d] 23)).alloc (.cells #[.int .i64 0, .int .i64 0] 23)).alloc (.cells #[.int .i64 a, .int .i64 b, .int .i64 c, .int .i64 d] 23)) w.heap.size 23 [.int .i64 a, .int .i64 b] := by
    have := Blk.new (w) [.int .i64 a, .int .i64 b] 23
    exact ((this.alloc _).alloc _).alloc _
  have W0Y : Blk ((((w.alloc (.cells #[.int .i64 a, .int .i64 b] 23)).alloc (.cells #[.int .i64 c, .int .i64 d] 23)).alloc (.cells #[.int .i64 0, .int .i64 0] 23)).alloc (.cells #[.int .i64 a, .int .i64 b, .int .i64 c, .int .i64 d] 23)) (w.heap.size + 1) 23 [.int .i64 c, .int .i64 d] := by
    have := Blk.new (w.alloc (.cells #[.int .i64 a, .int .i64 b] 23)) [.int .i64 c, .int .i64 d] 23
    rw [World.size_alloc] at this
    exact (this.alloc _).alloc _
  have W0Z : Blk ((((w.alloc (.cells #[.int .i64 a, .int .i64 b] 23)).alloc (.cells #[.int .i64 c, .int .i64 d] 23)).alloc (.cells #[.int .i64 0, .int .i64 0] 23)).alloc (.cells #[.int .i64 a, .int .i64 b, .int .i64 c, .int .i64 d] 23)) (w.heap.size + 1 + 1) 23 [.int .i64 0, .int .i64 0] := by
    have := Blk.new ((w.alloc (.cells #[.int .i64 a, .int .i64 b] 23)).alloc (.cells #[.int .i64 c, .int .i64 d] 23)) [.int .i64 0, .int .i64 0] 23
    rw [World.size_alloc, World.size_alloc] at this
    exact this.alloc _
  have W0S : Blk ((((w.alloc (.cells #[.int .i64 a, .int .i64 b] 23)).alloc (.cells #[.int .i64 c, .int .i64 d] 23)).alloc (.cells #[.int .i64 0, .int .i64 0] 23)).alloc (.cells #[.int .i64 a, .int .i64 b, .int .i64 c, .int .i64 d] 23)) (w.heap.size + 1 + 1 + 1) 23 [.int .i64 a, .int .i64 b, .int .i64 c, .int .i64 d] := by
    have := Blk.new (((w.alloc (.cells #[.int .i64 a, .int .i64 b] 23)).alloc (.cells #[.int .i64 c, .int .i64 d] 23)).alloc (.cells #[.int .i64 0, .int .i64 0] 23)) [.int .i64 a, .int .i64 b, .int .i64 c, .int .i64 d] 23
    rw [World.size_alloc, World.size_alloc, World.size_alloc] at this
    exact this
  have hE0 : Ext w ((((w.alloc (.cells #[.int .i64 a, .int .i64 b] 23)).alloc (.cells #[.int .i64 c, .int .i64 d] 23)).alloc (.cells #[.int .i64 0, .int .i64 0] 23)).alloc (.cells #[.int .i64 a, .int .i64 b, .int .i64 c, .int .i64 d] 23)) := ((((Ext.refl w).alloc _).alloc _).alloc _).alloc _
  go_enter Try.func10, Try.ntmps10
  go_wp2_with fail
  obtain ⟨V0, hV0⟩ : ∃ V, (((w.alloc (.cells #[.int .i64 a, .int .i64 b] 23)).alloc (.cells #[.int .i64 c, .int .i64 d] 23)).alloc (.cells #[.int .i64 0, .int .i64 0] 23)).alloc (.cells #[.int .i64 a, .int .i64 b, .int .i64 c, .int .i64 d] 23) = V := ⟨_, rfl⟩
  rw [hV0] at W0X W0Y W0Z W0S hE0 ⊢
  clear hV0
  have qX0 := W0X.cell 0 _ rfl
  have qX1 := W0X.cell 1 _ rfl
  have lX := W0X.lt
  have qY0 := W0Y.cell 0 _ rfl
  have qY1 := W0Y.cell 1 _ rfl
  have lY := W0Y.lt
  have qZ0 := W0Z.cell 0 _ rfl
  have qZ1 := W0Z.cell 1 _ rfl
  have fZ0 := W0Z.frozen 0
  have fZ1 := W0Z.frozen 1
  have lZ := W0Z.lt
  have qS0 := W0S.cell 0 _ rfl
  have qS1 := W0S.cell 1 _ rfl
  have qS2 := W0S.cell 2 _ rfl
  have qS3 := W0S.cell 3 _ rfl
  have lS := W0S.lt
  refine wp_loop_rounds 3 ?_
  rw [rounds_succ]
  go_wp2_with fail
  refine (check_yes h1 _).mono ?_
  rintro e1 V1 ⟨rfl, g1⟩
  have hE1 := hE0.trans g1.past
  have W1X := W0X.ext g1.past
  have W1Y := W0Y.ext g1.past
  have W1Z := W0Z.ext g1.past
  have W1S := W0S.ext g1.past
  clear W0X W0Y W0Z W0S hE0 g1
  clear qX0 qX1 lX qY0 qY1 lY qZ0 qZ1 fZ0 fZ1 lZ qS0 qS1 qS2 qS3 lS
  have qX0 := W1X.cell 0 _ rfl
  have qX1 := W1X.cell 1 _ rfl
  have lX := W1X.lt
  have qY0 := W1Y.cell 0 _ rfl
  have qY1 := W1Y.cell 1 _ rfl
  have lY := W1Y.lt
  have qZ0 := W1Z.cell 0 _ rfl
  have qZ1 := W1Z.cell 1 _ rfl
  have fZ0 := W1Z.frozen 0
  have fZ1 := W1Z.frozen 1
  have lZ := W1Z.lt
  have qS0 := W1S.cell 0 _ rfl
  have qS1 := W1S.cell 1 _ rfl
  have qS2 := W1S.cell 2 _ rfl
  have qS3 := W1S.cell 3 _ rfl
  have lS := W1S.lt
  go_wp2_with fail
  rw [rounds_succ]
  go_wp2_with fail
  refine (check_yes h2 _).mono ?_
  rintro e2 V2 ⟨rfl, g2⟩
  have hE2 := hE1.trans g2.past
  have W2X := W1X.ext g2.past
  have W2Y := W1Y.ext g2.past
  have W2Z := W1Z.ext g2.past
  have W2S := W1S.ext g2.past
  clear W1X W1Y W1Z W1S hE1 g2
  clear qX0 qX1 lX qY0 qY1 lY qZ0 qZ1 fZ0 fZ1 lZ qS0 qS1 qS2 qS3 lS
  have qX0 := W2X.cell 0 _ rfl
  have qX1 := W2X.cell 1 _ rfl
  have lX := W2X.lt
  have qY0 := W2Y.cell 0 _ rfl
  have qY1 := W2Y.cell 1 _ rfl
  have lY := W2Y.lt
  have qZ0 := W2Z.cell 0 _ rfl
  have qZ1 := W2Z.cell 1 _ rfl
  have fZ0 := W2Z.frozen 0
  have fZ1 := W2Z.frozen 1
  have lZ := W2Z.lt
  have qS0 := W2S.cell 0 _ rfl
  have qS1 := W2S.cell 1 _ rfl
  have qS2 := W2S.cell 2 _ rfl
  have qS3 := W2S.cell 3 _ rfl
  have lS := W2S.lt
  go_wp2_with fail
  rw [rounds_succ]
  go_wp2_with fail
  refine (rules_any _).mono ?_
  rintro e3 w3 ⟨rfl, rfl⟩
  have hlk := hl.out V2
  have hE3 := hE2.alloc (tblObj rulT)
  have W3X := W2X.alloc (tblObj rulT)
  have W3Y := W2Y.alloc (tblObj rulT)
  have W3Z := W2Z.alloc (tblObj rulT)
  have W3S := W2S.alloc (tblObj rulT)
  clear W2X W2Y W2Z W2S hE2 hl
  clear qX0 qX1 lX qY0 qY1 lY qZ0 qZ1 fZ0 fZ1 lZ qS0 qS1 qS2 qS3 lS
  obtain ⟨V3, hV3⟩ : ∃ V, V2.alloc (tblObj rulT) = V := ⟨_, rfl⟩
  rw [hV3] at hlk hE3 W3X W3Y W3Z W3S ⊢
  clear hV3
  have qX0 := W3X.cell 0 _ rfl
  have qX1 := W3X.cell 1 _ rfl
  have lX := W3X.lt
  have qY0 := W3Y.cell 0 _ rfl
  have qY1 := W3Y.cell 1 _ rfl
  have lY := W3Y.lt
  have qZ0 := W3Z.cell 0 _ rfl
  have qZ1 := W3Z.cell 1 _ rfl
  have fZ0 := W3Z.frozen 0
  have fZ1 := W3Z.frozen 1
  have lZ := W3Z.lt
  have qS0 := W3S.cell 0 _ rfl
  have qS1 := W3S.cell 1 _ rfl
  have qS2 := W3S.cell 2 _ rfl
  have qS3 := W3S.cell 3 _ rfl
  have lS := W3S.lt
  go_wp2_with fail
  go_wp2_with fail
  refine bodyPost_ret (v := .tuple #[.agg #[.int .i64 0, .int .i64 1], .int .i64 0]) (by simp [results, Try.results10, go_sem, *]) rfl ⟨rfl, ?_⟩
  repeat' (first | exact Ext.refl _ | assumption | (with_reducible refine Ext.alloc ?_ _) | (with_reducible refine Ext.drew ?_) | (with_reducible refine Ext.drewN _ ?_) | (refine Ext.setCell ?_ (by first | exact Nat.le_refl _ | (simp; done) | (simp; omega) | omega) _) | (refine Ext.trans ?_ (by assumption)))
set_option maxHeartbeats 2000000 in
theorem iv_div11 (a b c d : Int) (h1 : Ivl a b) (h2 : Ivl c d) (hc : c = 0) (w : World) : Calls Try.prog 10 #[.int .i64 11, .agg #[.int .i64 a, .int .i64 b], .agg #[.int .i64 c, .int .i64 d]] w fun x w' => x = .returned (.tuple #[.agg #[.int .i64 0, .int .i64 0], .int .i64 17]) ∧ Ext w w' := by
  subst hc
  have hl := fun w => rul_look w 11 (.func (.func 40) #[] #[]) rfl
  have hl := hidden hl
  have W0X : Blk ((((w.alloc (.cells #[.int .i64 a, .int .i64 b] 23)).alloc (.cells #[.int .i64 0, .int .i64 d] 23)).alloc (.cells #[.int .i64 0, .int .i64 0] 23)).alloc (.cells #[.int .i64 a, .int .i64 b, .int .i64 0, .int .i64 d] 23)) w.heap.size 23 [.int .i64 a, .int .i64 b] := by
    have := Blk.new (w) [.int .i64 a, .int .i64 b] 23
    exact ((this.alloc _).alloc _).alloc _
  have W0Y : Blk ((((w.alloc (.cells #[.int .i64 a, .int .i64 b] 23)).alloc (.cells #[.int .i64 0, .int .i64 d] 23)).alloc (.cells #[.int .i64 0, .int .i64 0] 23)).alloc (.cells #[.int .i64 a, .int .i64 b, .int .i64 0, .int .i64 d] 23)) (w.heap.size + 1) 23 [.int .i64 0, .int .i64 d] := by
    have := Blk.new (w.alloc (.cells #[.int .i64 a, .int .i64 b] 23)) [.int .i64 0, .int .i64 d] 23
    rw [World.size_alloc] at this
    exact (this.alloc _).alloc _
  have W0Z : Blk ((((w.alloc (.cells #[.int .i64 a, .int .i64 b] 23)).alloc (.cells #[.int .i64 0, .int .i64 d] 23)).alloc (.cells #[.int .i64 0, .int .i64 0] 23)).alloc (.cells #[.int .i64 a, .int .i64 b, .int .i64 0, .int .i64 d] 23)) (w.heap.size + 1 + 1) 23 [.int .i64 0, .int .i64 0] := by
    have := Blk.new ((w.alloc (.cells #[.int .i64 a, .int .i64 b] 23)).alloc (.cells #[.int .i64 0, .int .i64 d] 23)) [.int .i64 0, .int .i64 0] 23
    rw [World.size_alloc, World.size_alloc] at this
    exact this.alloc _
  have W0S : Blk ((((w.alloc (.cells #[.int .i64 a, .int .i64 b] 23)).alloc (.cells #[.int .i64 0, .int .i64 d] 23)).alloc (.cells #[.int .i64 0, .int .i64 0] 23)).alloc (.cells #[.int .i64 a, .int .i64 b, .int .i64 0, .int .i64 d] 23)) (w.heap.size + 1 + 1 + 1) 23 [.int .i64 a, .int .i64 b, .int .i64 0, .int .i64 d] := by
    have := Blk.new (((w.alloc (.cells #[.int .i64 a, .int .i64 b] 23)).alloc (.cells #[.int .i64 0, .int .i64 d] 23)).alloc (.cells #[.int .i64 0, .int .i64 0] 23)) [.int .i64 a, .int .i64 b, .int .i64 0, .int .i64 d] 23
    rw [World.size_alloc, World.size_alloc, World.size_alloc] at this
    exact this
  have hE0 : Ext w ((((w.alloc (.cells #[.int .i64 a, .int .i64 b] 23)).alloc (.cells #[.int .i64 0, .int .i64 d] 23)).alloc (.cells #[.int .i64 0, .int .i64 0] 23)).alloc (.cells #[.int .i64 a, .int .i64 b, .int .i64 0, .int .i64 d] 23)) := ((((Ext.refl w).alloc _).alloc _).alloc _).alloc _
  go_enter Try.func10, Try.ntmps10
  go_wp2_with fail
  obtain ⟨V0, hV0⟩ : ∃ V, (((w.alloc (.cells #[.int .i64 a, .int .i64 b] 23)).alloc (.cells #[.int .i64 0, .int .i64 d] 23)).alloc (.cells #[.int .i64 0, .int .i64 0] 23)).alloc (.cells #[.int .i64 a, .int .i64 b, .int .i64 0, .int .i64 d] 23) = V := ⟨_, rfl⟩
  rw [hV0] at W0X W0Y W0Z W0S hE0 ⊢
  clear hV0
  have qX0 := W0X.cell 0 _ rfl
  have qX1 := W0X.cell 1 _ rfl
  have lX := W0X.lt
  have qY0 := W0Y.cell 0 _ rfl
  have qY1 := W0Y.cell 1 _ rfl
  have lY := W0Y.lt
  have qZ0 := W0Z.cell 0 _ rfl
  have qZ1 := W0Z.cell 1 _ rfl
  have fZ0 := W0Z.frozen 0
  have fZ1 := W0Z.frozen 1
  have lZ := W0Z.lt
  have qS0 := W0S.cell 0 _ rfl
  have qS1 := W0S.cell 1 _ rfl
  have qS2 := W0S.cell 2 _ rfl
  have qS3 := W0S.cell 3 _ rfl
  have lS := W0S.lt
  refine wp_loop_rounds 3 ?_
  rw [rounds_succ]
  go_wp2_with fail
  refine (check_yes h1 _).mono ?_
  rintro e1 V1 ⟨rfl, g1⟩
  have hE1 := hE0.trans g1.past
  have W1X := W0X.ext g1.past
  have W1Y := W0Y.ext g1.past
  have W1Z := W0Z.ext g1.past
  have W1S := W0S.ext g1.past
  clear W0X W0Y W0Z W0S hE0 g1
  clear qX0 qX1 lX qY0 qY1 lY qZ0 qZ1 fZ0 fZ1 lZ qS0 qS1 qS2 qS3 lS
  have qX0 := W1X.cell 0 _ rfl
  have qX1 := W1X.cell 1 _ rfl
  have lX := W1X.lt
  have qY0 := W1Y.cell 0 _ rfl
  have qY1 := W1Y.cell 1 _ rfl
  have lY := W1Y.lt
  have qZ0 := W1Z.cell 0 _ rfl
  have qZ1 := W1Z.cell 1 _ rfl
  have fZ0 := W1Z.frozen 0
  have fZ1 := W1Z.frozen 1
  have lZ := W1Z.lt
  have qS0 := W1S.cell 0 _ rfl
  have qS1 := W1S.cell 1 _ rfl
  have qS2 := W1S.cell 2 _ rfl
  have qS3 := W1S.cell 3 _ rfl
  have lS := W1S.lt
  go_wp2_with fail
  rw [rounds_succ]
  go_wp2_with fail
  refine (check_yes h2 _).mono ?_
  rintro e2 V2 ⟨rfl, g2⟩
  have hE2 := hE1.trans g2.past
  have W2X := W1X.ext g2.past
  have W2Y := W1Y.ext g2.past
  have W2Z := W1Z.ext g2.past
  have W2S := W1S.ext g2.past
  clear W1X W1Y W1Z W1S hE1 g2
  clear qX0 qX1 lX qY0 qY1 lY qZ0 qZ1 fZ0 fZ1 lZ qS0 qS1 qS2 qS3 lS
  have qX0 := W2X.cell 0 _ rfl
  have qX1 := W2X.cell 1 _ rfl
  have lX := W2X.lt
  have qY0 := W2Y.cell 0 _ rfl
  have qY1 := W2Y.cell 1 _ rfl
  have lY := W2Y.lt
  have qZ0 := W2Z.cell 0 _ rfl
  have qZ1 := W2Z.cell 1 _ rfl
  have fZ0 := W2Z.frozen 0
  have fZ1 := W2Z.frozen 1
  have lZ := W2Z.lt
  have qS0 := W2S.cell 0 _ rfl
  have qS1 := W2S.cell 1 _ rfl
  have qS2 := W2S.cell 2 _ rfl
  have qS3 := W2S.cell 3 _ rfl
  have lS := W2S.lt
  go_wp2_with fail
  rw [rounds_succ]
  go_wp2_with fail
  refine (rules_any _).mono ?_
  rintro e3 w3 ⟨rfl, rfl⟩
  have hlk := hl.out V2
  have hE3 := hE2.alloc (tblObj rulT)
  have W3X := W2X.alloc (tblObj rulT)
  have W3Y := W2Y.alloc (tblObj rulT)
  have W3Z := W2Z.alloc (tblObj rulT)
  have W3S := W2S.alloc (tblObj rulT)
  clear W2X W2Y W2Z W2S hE2 hl
  clear qX0 qX1 lX qY0 qY1 lY qZ0 qZ1 fZ0 fZ1 lZ qS0 qS1 qS2 qS3 lS
  obtain ⟨V3, hV3⟩ : ∃ V, V2.alloc (tblObj rulT) = V := ⟨_, rfl⟩
  rw [hV3] at hlk hE3 W3X W3Y W3Z W3S ⊢
  clear hV3
  have qX0 := W3X.cell 0 _ rfl
  have qX1 := W3X.cell 1 _ rfl
  have lX := W3X.lt
  have qY0 := W3Y.cell 0 _ rfl
  have qY1 := W3Y.cell 1 _ rfl
  have lY := W3Y.lt
  have qZ0 := W3Z.cell 0 _ rfl
  have qZ1 := W3Z.cell 1 _ rfl
  have fZ0 := W3Z.frozen 0
  have fZ1 := W3Z.frozen 1
  have lZ := W3Z.lt
  have qS0 := W3S.cell 0 _ rfl
  have qS1 := W3S.cell 1 _ rfl
  have qS2 := W3S.cell 2 _ rfl
  have qS3 := W3S.cell 3 _ rfl
  have lS := W3S.lt
  go_wp2_with fail
  go_wp2_with fail
  refine bodyPost_ret (v := .tuple #[.agg #[.int .i64 0, .int .i64 0], .int .i64 17]) (by simp [results, Try.results10, go_sem, *]) rfl ⟨rfl, ?_⟩
  repeat' (first | exact Ext.refl _ | assumption | (with_reducible refine Ext.alloc ?_ _) | (with_reducible refine Ext.drew ?_) | (with_reducible refine Ext.drewN _ ?_) | (refine Ext.setCell ?_ (by first | exact Nat.le_refl _ | (simp; done) | (simp; omega) | omega) _) | (refine Ext.trans ?_ (by assumption)))
set_option maxHeartbeats 2000000 in
theorem iv_div12 (a b c d : Int) (h1 : Ivl a b) (h2 : Ivl c d) (hc : c = 0) (w : World) : Calls Try.prog 10 #[.int .i64 12, .agg #[.int .i64 a, .int .i64 b], .agg #[.int .i64 c, .int .i64 d]] w fun x w' => x = .returned (.tuple #[.agg #[.int .i64 0, .int .i64 0], .int .i64 17]) ∧ Ext w w' := by
  subst hc
  have hl := fun w => rul_look w 12 (.func (.func 41) #[] #[]) rfl
  have hl := hidden hl
  have W0X : Blk ((((w.alloc (.cells #[.int .i64 a, .int .i64 b] 23)).alloc (.cells #[.int .i64 0, .int .i64 d] 23)).alloc (.cells #[.int .i64 0, .int .i64 0] 23)).alloc (.cells #[.int .i64 a, .int .i64 b, .int .i64 0, .int .i64 d] 23)) w.heap.size 23 [.int .i64 a, .int .i64 b] := by
    have := Blk.new (w) [.int .i64 a, .int .i64 b] 23
    exact ((this.alloc _).alloc _).alloc _
  have W0Y : Blk ((((w.alloc (.cells #[.int .i64 a, .int .i64 b] 23)).alloc (.cells #[.int .i64 0, .int .i64 d] 23)).alloc (.cells #[.int .i64 0, .int .i64 0] 23)).alloc (.cells #[.int .i64 a, .int .i64 b, .int .i64 0, .int .i64 d] 23)) (w.heap.size + 1) 23 [.int .i64 0, .int .i64 d] := by
    have := Blk.new (w.alloc (.cells #[.int .i64 a, .int .i64 b] 23)) [.int .i64 0, .int .i64 d] 23
    rw [World.size_alloc] at this
    exact (this.alloc _).alloc _
  have W0Z : Blk ((((w.alloc (.cells #[.int .i64 a, .int .i64 b] 23)).alloc (.cells #[.int .i64 0, .int .i64 d] 23)).alloc (.cells #[.int .i64 0, .int .i64 0] 23)).alloc (.cells #[.int .i64 a, .int .i64 b, .int .i64 0, .int .i64 d] 23)) (w.heap.size + 1 + 1) 23 [.int .i64 0, .int .i64 0] := by
    have := Blk.new ((w.alloc (.cells #[.int .i64 a, .int .i64 b] 23)).alloc (.cells #[.int .i64 0, .int .i64 d] 23)) [.int .i64 0, .int .i64 0] 23
    rw [World.size_alloc, World.size_alloc] at this
    exact this.alloc _
  have W0S : Blk ((((w.alloc (.cells #[.int .i64 a, .int .i64 b] 23)).alloc (.cells #[.int .i64 0, .int .i64 d] 23)).alloc (.cells #[.int .i64 0, .int .i64 0] 23)).alloc (.cells #[.int .i64 a, .int .i64 b, .int .i64 0, .int .i64 d] 23)) (w.heap.size + 1 + 1 + 1) 23 [.int .i64 a, .int .i64 b, .int .i64 0, .int .i64 d] := by
    have := Blk.new (((w.alloc (.cells #[.int .i64 a, .int .i64 b] 23)).alloc (.cells #[.int .i64 0, .int .i64 d] 23)).alloc (.cells #[.int .i64 0, .int .i64 0] 23)) [.int .i64 a, .int .i64 b, .int .i64 0, .int .i64 d] 23
    rw [World.size_alloc, World.size_alloc, World.size_alloc] at this
    exact this
  have hE0 : Ext w ((((w.alloc (.cells #[.int .i64 a, .int .i64 b] 23)).alloc (.cells #[.int .i64 0, .int .i64 d] 23)).alloc (.cells #[.int .i64 0, .int .i64 0] 23)).alloc (.cells #[.int .i64 a, .int .i64 b, .int .i64 0, .int .i64 d] 23)) := ((((Ext.refl w).alloc _).alloc _).alloc _).alloc _
  go_enter Try.func10, Try.ntmps10
  go_wp2_with fail
  obtain ⟨V0, hV0⟩ : ∃ V, (((w.alloc (.cells #[.int .i64 a, .int .i64 b] 23)).alloc (.cells #[.int .i64 0, .int .i64 d] 23)).alloc (.cells #[.int .i64 0, .int .i64 0] 23)).alloc (.cells #[.int .i64 a, .int .i64 b, .int .i64 0, .int .i64 d] 23) = V := ⟨_, rfl⟩
  rw [hV0] at W0X W0Y W0Z W0S hE0 ⊢
  clear hV0
  have qX0 := W0X.cell 0 _ rfl
  have qX1 := W0X.cell 1 _ rfl
  have lX := W0X.lt
  have qY0 := W0Y.cell 0 _ rfl
  have qY1 := W0Y.cell 1 _ rfl
  have lY := W0Y.lt
  have qZ0 := W0Z.cell 0 _ rfl
  have qZ1 := W0Z.cell 1 _ rfl
  have fZ0 := W0Z.frozen 0
  have fZ1 := W0Z.frozen 1
  have lZ := W0Z.lt
  have qS0 := W0S.cell 0 _ rfl
  have qS1 := W0S.cell 1 _ rfl
  have qS2 := W0S.cell 2 _ rfl
  have qS3 := W0S.cell 3 _ rfl
  have lS := W0S.lt
  refine wp_loop_rounds 3 ?_
  rw [rounds_succ]
  go_wp2_with fail
  refine (check_yes h1 _).mono ?_
  rintro e1 V1 ⟨rfl, g1⟩
  have hE1 := hE0.trans g1.past
  have W1X := W0X.ext g1.past
  have W1Y := W0Y.ext g1.past
  have W1Z := W0Z.ext g1.past
  have W1S := W0S.ext g1.past
  clear W0X W0Y W0Z W0S hE0 g1
  clear qX0 qX1 lX qY0 qY1 lY qZ0 qZ1 fZ0 fZ1 lZ qS0 qS1 qS2 qS3 lS
  have qX0 := W1X.cell 0 _ rfl
  have qX1 := W1X.cell 1 _ rfl
  have lX := W1X.lt
  have qY0 := W1Y.cell 0 _ rfl
  have qY1 := W1Y.cell 1 _ rfl
  have lY := W1Y.lt
  have qZ0 := W1Z.cell 0 _ rfl
  have qZ1 := W1Z.cell 1 _ rfl
  have fZ0 := W1Z.frozen 0
  have fZ1 := W1Z.frozen 1
  have lZ := W1Z.lt
  have qS0 := W1S.cell 0 _ rfl
  have qS1 := W1S.cell 1 _ rfl
  have qS2 := W1S.cell 2 _ rfl
  have qS3 := W1S.cell 3 _ rfl
  have lS := W1S.lt
  go_wp2_with fail
  rw [rounds_succ]
  go_wp2_with fail
  refine (check_yes h2 _).mono ?_
  rintro e2 V2 ⟨rfl, g2⟩
  have hE2 := hE1.trans g2.past
  have W2X := W1X.ext g2.past
  have W2Y := W1Y.ext g2.past
  have W2Z := W1Z.ext g2.past
  have W2S := W1S.ext g2.past
  clear W1X W1Y W1Z W1S hE1 g2
  clear qX0 qX1 lX qY0 qY1 lY qZ0 qZ1 fZ0 fZ1 lZ qS0 qS1 qS2 qS3 lS
  have qX0 := W2X.cell 0 _ rfl
  have qX1 := W2X.cell 1 _ rfl
  have lX := W2X.lt
  have qY0 := W2Y.cell 0 _ rfl
  have qY1 := W2Y.cell 1 _ rfl
  have lY := W2Y.lt
  have qZ0 := W2Z.cell 0 _ rfl
  have qZ1 := W2Z.cell 1 _ rfl
  have fZ0 := W2Z.frozen 0
  have fZ1 := W2Z.frozen 1
  have lZ := W2Z.lt
  have qS0 := W2S.cell 0 _ rfl
  have qS1 := W2S.cell 1 _ rfl
  have qS2 := W2S.cell 2 _ rfl
  have qS3 := W2S.cell 3 _ rfl
  have lS := W2S.lt
  go_wp2_with fail
  rw [rounds_succ]
  go_wp2_with fail
  refine (rules_any _).mono ?_
  rintro e3 w3 ⟨rfl, rfl⟩
  have hlk := hl.out V2
  have hE3 := hE2.alloc (tblObj rulT)
  have W3X := W2X.alloc (tblObj rulT)
  have W3Y := W2Y.alloc (tblObj rulT)
  have W3Z := W2Z.alloc (tblObj rulT)
  have W3S := W2S.alloc (tblObj rulT)
  clear W2X W2Y W2Z W2S hE2 hl
  clear qX0 qX1 lX qY0 qY1 lY qZ0 qZ1 fZ0 fZ1 lZ qS0 qS1 qS2 qS3 lS
  obtain ⟨V3, hV3⟩ : ∃ V, V2.alloc (tblObj rulT) = V := ⟨_, rfl⟩
  rw [hV3] at hlk hE3 W3X W3Y W3Z W3S ⊢
  clear hV3
  have qX0 := W3X.cell 0 _ rfl
  have qX1 := W3X.cell 1 _ rfl
  have lX := W3X.lt
  have qY0 := W3Y.cell 0 _ rfl
  have qY1 := W3Y.cell 1 _ rfl
  have lY := W3Y.lt
  have qZ0 := W3Z.cell 0 _ rfl
  have qZ1 := W3Z.cell 1 _ rfl
  have fZ0 := W3Z.frozen 0
  have fZ1 := W3Z.frozen 1
  have lZ := W3Z.lt
  have qS0 := W3S.cell 0 _ rfl
  have qS1 := W3S.cell 1 _ rfl
  have qS2 := W3S.cell 2 _ rfl
  have qS3 := W3S.cell 3 _ rfl
  have lS := W3S.lt
  go_wp2_with fail
  go_wp2_with fail
  refine bodyPost_ret (v := .tuple #[.agg #[.int .i64 0, .int .i64 0], .int .i64 17]) (by simp [results, Try.results10, go_sem, *]) rfl ⟨rfl, ?_⟩
  repeat' (first | exact Ext.refl _ | assumption | (with_reducible refine Ext.alloc ?_ _) | (with_reducible refine Ext.drew ?_) | (with_reducible refine Ext.drewN _ ?_) | (refine Ext.setCell ?_ (by first | exact Nat.le_refl _ | (simp; done) | (simp; omega) | omega) _) | (refine Ext.trans ?_ (by assumption)))
end Go.Proofs.Ytbpnagamcohlnaa
