/- The reference's Apply of layer 19. -/
import Derived.Test.YtbpnagamcohlnaaIw
import Derived.Test.YtbpnagamcohlnaaIg
namespace Go.Proofs.Ytbpnagamcohlnaa
open Go.RowKit
set_option linter.unusedVariables false


theorem rx_any (op a b c d : Int) (p0 : 8 ≤ op) (p1 : op ≤ 20) (h1 : Ivl a b) (h2 : Ivl c d) (hz : c = 0 → op ≠ 11 ∧ op ≠ 12) (w : World) : Calls Try.prog 32 #[.int .i64 op, .int .i64 a, .int .i64 b, .agg #[.int .i64 c, .int .i64 d]] w fun x w' => x = .returned (.agg #[.int .i64 (rulL op a b c d), .int .i64 (rulH op a b c d)]) ∧ Ext w w' := by
  obtain ⟨x0, x1, x2⟩ := h1
  obtain ⟨y0, y1, y2⟩ := h2
  have hc : op = 8 ∨ op = 9 ∨ op = 10 ∨ op = 11 ∨ op = 12 ∨ op = 13 ∨ op = 14 ∨ op = 15 ∨ op = 16 ∨ op = 17 ∨ op = 18 ∨ op = 19 ∨ op = 20 := by omega
  rcases hc with rfl | rfl | rfl | rfl | rfl | rfl | rfl | rfl | rfl | rfl | rfl | rfl | rfl
  · exact rx8 a b c d x0 x1 x2 y0 y1 y2 w
  · exact rx9 a b c d x0 x1 x2 y0 y1 y2 w
  · exact rx10 a b c d x0 x1 x2 y0 y1 y2 w
  · exact rx11 a b c d x0 x1 x2 y0 y1 y2 (by omega) w
  · exact rx12 a b c d x0 x1 x2 y0 y1 y2 (by omega) w
  · exact rx13 a b c d x0 x1 x2 y0 y1 y2 w
  · exact rx14 a b c d x0 x1 x2 y0 y1 y2 w
  · exact rx15 a b c d x0 x1 x2 y0 y1 y2 w
  · exact rx16 a b c d x0 x1 x2 y0 y1 y2 w
  · exact rx17 a b c d x0 x1 x2 y0 y1 y2 w
  · exact rx18 a b c d x0 x1 x2 y0 y1 y2 w
  · exact rx19 a b c d x0 x1 x2 y0 y1 y2 w
  · exact rx20 a b c d x0 x1 x2 y0 y1 y2 w
set_option maxHeartbeats 2000000 in
theorem riv_bad1 (op a b c d : Int) (h1 : ¬ Ivl a b) (w : World) : Calls Try.prog 11 #[.int .i64 op, .agg #[.int .i64 a, .int .i64 b], .agg #[.int .i64 c, .int .i64 d]] w fun x w' => x = .returned (.tuple #[.agg #[.int .i64 0, .int .i64 0], .int .i64 (chk a b)]) ∧ Ext w w' := by
  have hn0 : chk a b ≠ 0 := fun e => h1 ((chk_iff a b).1 e)
  obtain ⟨n, hn⟩ : ∃ n, chk a b = n := ⟨_, rfl⟩
  have kb : (n == 0) = false := by rw [← hn]; simp [hn0]
  have kc : (n != 0) = true := by rw [← hn]; simp [hn0]
  rw [hn]
  have Hn := hidden hn
  clear hn hn0
  have W0X : Blk (((w.alloc (.cells #[.int .i64 a, .int .i64 b] 23)).alloc (.cells #[.int .i64 c, .int .i64 d] 23)).alloc (.cells #[.int .i64 0, .int .i64 0] 23)) w.heap.size 23 [.int .i64 a, .int .i64 b] := by
    have := Blk.new (w) [.int .i64 a, .int .i64 b] 23
    exact (this.alloc _).alloc _
  have W0Y : Blk (((w.alloc (.cells #[.int .i64 a, .int .i64 b] 23)).alloc (.cells #[.int .i64 c, .int .i64 d] 23)).alloc (.cells #[.int .i64 0, .int .i64 0] 23)) (w.heap.size + 1) 23 [.int .i64 c, .int .i64 d] := by
    have := Blk.new (w.alloc (.cells #[.int .i64 a, .int .i64 b] 23)) [.int .i64 c, .int .i64 d] 23
    rw [World.size_alloc] at this
    exact this.alloc _
  have W0Z : Blk (((w.alloc (.cells #[.int .i64 a, .int .i64 b] 23)).alloc (.cells #[.int .i64 c, .int .i64 d] 23)).alloc (.cells #[.int .i64 0, .int .i64 0] 23)) (w.heap.size + 1 + 1) 23 [.int .i64 0, .int .i64 0] := by
    have := Blk.new ((w.alloc (.cells #[.int .i64 a, .int .i64 b] 23)).alloc (.cells #[.int .i64 c, .int .i64 d] 23)) [.int .i64 0, .int .i64 0] 23
    rw [World.size_alloc, World.size_alloc] at this
    exact this
  have hE0 : Ext w (((w.alloc (.cells #[.int .i64 a, .int .i64 b] 23)).alloc (.cells #[.int .i64 c, .int .i64 d] 23)).alloc (.cells #[.int .i64 0, .int .i64 0] 23)) := (((Ext.refl w).alloc _).alloc _).alloc _
  go_enter Try.func11, Try.ntmps11
  go_wp2_with fail
  refine (rcheck_any a b _).mono ?_
  rw [Hn.out]
  rintro e1 V1 ⟨rfl, g1⟩
  have W1X := W0X.ext g1
  have W1Y := W0Y.ext g1
  have W1Z := W0Z.ext g1
  have hE1 := hE0.trans g1
  clear W0X W0Y W0Z hE0 g1
  have qX0 := W1X.cell 0 _ rfl
  have qX1 := W1X.cell 1 _ rfl
  have qY0 := W1Y.cell 0 _ rfl
  have qY1 := W1Y.cell 1 _ rfl
  have qZ0 := W1Z.cell 0 _ rfl
  have qZ1 := W1Z.cell 1 _ rfl
  have fZ0 := W1Z.frozen 0
  have fZ1 := W1Z.frozen 1
  go_wp2_with fail
  refine bodyPost_ret (v := .tuple #[.agg #[.int .i64 0, .int .i64 0], .int .i64 n]) (by simp [results, Try.results11, go_sem, *]) rfl ⟨rfl, ?_⟩
  repeat' (first | exact Ext.refl _ | assumption | (with_reducible refine Ext.alloc ?_ _) | (with_reducible refine Ext.drew ?_) | (with_reducible refine Ext.drewN _ ?_) | (refine Ext.setCell ?_ (by first | exact Nat.le_refl _ | (simp; done) | (simp; omega) | omega) _) | (refine Ext.trans ?_ (by assumption)))
set_option maxHeartbeats 2000000 in
theorem riv_bad2 (op a b c d : Int) (h1 : Ivl a b) (h2 : ¬ Ivl c d) (w : World) : Calls Try.prog 11 #[.int .i64 op, .agg #[.int .i64 a, .int .i64 b], .agg #[.int .i64 c, .int .i64 d]] w fun x w' => x = .returned (.tuple #[.agg #[.int .i64 0, .int .i64 0], .int .i64 (chk c d)]) ∧ Ext w w' := by
  have hn0 : chk c d ≠ 0 := fun e => h2 ((chk_iff c d).1 e)
  obtain ⟨n, hn⟩ : ∃ n, chk c d = n := ⟨_, rfl⟩
  have kb : (n == 0) = false := by rw [← hn]; simp [hn0]
  have kc : (n != 0) = true := by rw [← hn]; simp [hn0]
  rw [hn]
  have Hn := hidden hn
  clear hn hn0
  have W0X : Blk (((w.alloc (.cells #[.int .i64 a, .int .i64 b] 23)).alloc (.cells #[.int .i64 c, .int .i64 d] 23)).alloc (.cells #[.int .i64 0, .int .i64 0] 23)) w.heap.size 23 [.int .i64 a, .int .i64 b] := by
    have := Blk.new (w) [.int .i64 a, .int .i64 b] 23
    exact (this.alloc _).alloc _
  have W0Y : Blk (((w.alloc (.cells #[.int .i64 a, .int .i64 b] 23)).alloc (.cells #[.int .i64 c, .int .i64 d] 23)).alloc (.cells #[.int .i64 0, .int .i64 0] 23)) (w.heap.size + 1) 23 [.int .i64 c, .int .i64 d] := by
    have := Blk.new (w.alloc (.cells #[.int .i64 a, .int .i64 b] 23)) [.int .i64 c, .int .i64 d] 23
    rw [World.size_alloc] at this
    exact this.alloc _
  have W0Z : Blk (((w.alloc (.cells #[.int .i64 a, .int .i64 b] 23)).alloc (.cells #[.int .i64 c, .int .i64 d] 23)).alloc (.cells #[.int .i64 0, .int .i64 0] 23)) (w.heap.size + 1 + 1) 23 [.int .i64 0, .int .i64 0] := by
    have := Blk.new ((w.alloc (.cells #[.int .i64 a, .int .i64 b] 23)).alloc (.cells #[.int .i64 c, .int .i64 d] 23)) [.int .i64 0, .int .i64 0] 23
    rw [World.size_alloc, World.size_alloc] at this
    exact this
  have hE0 : Ext w (((w.alloc (.cells #[.int .i64 a, .int .i64 b] 23)).alloc (.cells #[.int .i64 c, .int .i64 d] 23)).alloc (.cells #[.int .i64 0, .int .i64 0] 23)) := (((Ext.refl w).alloc _).alloc _).alloc _
  go_enter Try.func11, Try.ntmps11
  go_wp2_with fail
  refine (rcheck_yes h1 _).mono ?_
  rintro e1 V1 ⟨rfl, g1⟩
  have W1X := W0X.ext g1
  have W1Y := W0Y.ext g1
  have W1Z := W0Z.ext g1
  have hE1 := hE0.trans g1
  clear W0X W0Y W0Z hE0 g1
  have qX0 := W1X.cell 0 _ rfl
  have qX1 := W1X.cell 1 _ rfl
  have qY0 := W1Y.cell 0 _ rfl
  have qY1 := W1Y.cell 1 _ rfl
  have qZ0 := W1Z.cell 0 _ rfl
  have qZ1 := W1Z.cell 1 _ rfl
  have fZ0 := W1Z.frozen 0
  have fZ1 := W1Z.frozen 1
  go_wp2_with fail
  refine (rcheck_any c d _).mono ?_
  rw [Hn.out]
  rintro e2 V2 ⟨rfl, g2⟩
  have W2X := W1X.ext g2
  have W2Y := W1Y.ext g2
  have W2Z := W1Z.ext g2
  have hE2 := hE1.trans g2
  clear W1X W1Y W1Z hE1 g2
  clear qX0 qX1 qY0 qY1 qZ0 qZ1 fZ0 fZ1
  have qX0 := W2X.cell 0 _ rfl
  have qX1 := W2X.cell 1 _ rfl
  have qY0 := W2Y.cell 0 _ rfl
  have qY1 := W2Y.cell 1 _ rfl
  have qZ0 := W2Z.cell 0 _ rfl
  have qZ1 := W2Z.cell 1 _ rfl
  have fZ0 := W2Z.frozen 0
  have fZ1 := W2Z.frozen 1
  go_wp2_with fail
  refine bodyPost_ret (v := .tuple #[.agg #[.int .i64 0, .int .i64 0], .int .i64 n]) (by simp [results, Try.results11, go_sem, *]) rfl ⟨rfl, ?_⟩
  repeat' (first | exact Ext.refl _ | assumption | (with_reducible refine Ext.alloc ?_ _) | (with_reducible refine Ext.drew ?_) | (with_reducible refine Ext.drewN _ ?_) | (refine Ext.setCell ?_ (by first | exact Nat.le_refl _ | (simp; done) | (simp; omega) | omega) _) | (refine Ext.trans ?_ (by assumption)))
set_option maxHeartbeats 2000000 in
theorem riv_arg1 (op a b c d : Int) (h1 : Ivl a b) (h2 : Ivl c d) (k1 : op < 8) (w : World) : Calls Try.prog 11 #[.int .i64 op, .agg #[.int .i64 a, .int .i64 b], .agg #[.int .i64 c, .int .i64 d]] w fun x w' => x = .returned (.tuple #[.agg #[.int .i64 0, .int .i64 0], .int .i64 1]) ∧ Ext w w' := by
  have W0X : Blk (((w.alloc (.cells #[.int .i64 a, .int .i64 b] 23)).alloc (.cells #[.int .i64 c, .int .i64 d] 23)).alloc (.cells #[.int .i64 0, .int .i64 0] 23)) w.heap.size 23 [.int .i64 a, .int .i64 b] := by
    have := Blk.new (w) [.int .i64 a, .int .i64 b] 23
    exact (this.alloc _).alloc _
  have W0Y : Blk (((w.alloc (.cells #[.int .i64 a, .int .i64 b] 23)).alloc (.cells #[.int .i64 c, .int .i64 d] 23)).alloc (.cells #[.int .i64 0, .int .i64 0] 23)) (w.heap.size + 1) 23 [.int .i64 c, .int .i64 d] := by
    have := Blk.new (w.alloc (.cells #[.int .i64 a, .int .i64 b] 23)) [.int .i64 c, .int .i64 d] 23
    rw [World.size_alloc] at this
    exact this.alloc _
  have W0Z : Blk (((w.alloc (.cells #[.int .i64 a, .int .i64 b] 23)).alloc (.cells #[.int .i64 c, .int .i64 d] 23)).alloc (.cells #[.int .i64 0, .int .i64 0] 23)) (w.heap.size + 1 + 1) 23 [.int .i64 0, .int .i64 0] := by
    have := Blk.new ((w.alloc (.cells #[.int .i64 a, .int .i64 b] 23)).alloc (.cells #[.int .i64 c, .int .i64 d] 23)) [.int .i64 0, .int .i64 0] 23
    rw [World.size_alloc, World.size_alloc] at this
    exact this
  have hE0 : Ext w (((w.alloc (.cells #[.int .i64 a, .int .i64 b] 23)).alloc (.cells #[.int .i64 c, .int .i64 d] 23)).alloc (.cells #[.int .i64 0, .int .i64 0] 23)) := (((Ext.refl w).alloc _).alloc _).alloc _
  go_enter Try.func11, Try.ntmps11
  go_wp2_with fail
  refine (rcheck_yes h1 _).mono ?_
  rintro e1 V1 ⟨rfl, g1⟩
  have W1X := W0X.ext g1
  have W1Y := W0Y.ext g1
  have W1Z := W0Z.ext g1
  have hE1 := hE0.trans g1
  clear W0X W0Y W0Z hE0 g1
  have qX0 := W1X.cell 0 _ rfl
  have qX1 := W1X.cell 1 _ rfl
  have qY0 := W1Y.cell 0 _ rfl
  have qY1 := W1Y.cell 1 _ rfl
  have qZ0 := W1Z.cell 0 _ rfl
  have qZ1 := W1Z.cell 1 _ rfl
  have fZ0 := W1Z.frozen 0
  have fZ1 := W1Z.frozen 1
  go_wp2_with fail
  refine (rcheck_yes h2 _).mono ?_
  rintro e2 V2 ⟨rfl, g2⟩
  have W2X := W1X.ext g2
  have W2Y := W1Y.ext g2
  have W2Z := W1Z.ext g2
  have hE2 := hE1.trans g2
  clear W1X W1Y W1Z hE1 g2
  clear qX0 qX1 qY0 qY1 qZ0 qZ1 fZ0 fZ1
  have qX0 := W2X.cell 0 _ rfl
  have qX1 := W2X.cell 1 _ rfl
  have qY0 := W2Y.cell 0 _ rfl
  have qY1 := W2Y.cell 1 _ rfl
  have qZ0 := W2Z.cell 0 _ rfl
  have qZ1 := W2Z.cell 1 _ rfl
  have fZ0 := W2Z.frozen 0
  have fZ1 := W2Z.frozen 1
  go_wp2_with fail
  refine bodyPost_ret (v := .tuple #[.agg #[.int .i64 0, .int .i64 0], .int .i64 1]) (by simp [results, Try.results11, go_sem, *]) rfl ⟨rfl, ?_⟩
  repeat' (first | exact Ext.refl _ | assumption | (with_reducible refine Ext.alloc ?_ _) | (with_reducible refine Ext.drew ?_) | (with_reducible refine Ext.drewN _ ?_) | (refine Ext.setCell ?_ (by first | exact Nat.le_refl _ | (simp; done) | (simp; omega) | omega) _) | (refine Ext.trans ?_ (by assumption)))
set_option maxHeartbeats 2000000 in
theorem riv_arg2 (op a b c d : Int) (h1 : Ivl a b) (h2 : Ivl c d) (k1 : ¬ op < 8) (k2 : 26 < op) (w : World) : Calls Try.prog 11 #[.int .i64 op, .agg #[.int .i64 a, .int .i64 b], .agg #[.int .i64 c, .int .i64 d]] w fun x w' => x = .returned (.tuple #[.agg #[.int .i64 0, .int .i64 0], .int .i64 1]) ∧ Ext w w' := by
  have W0X : Blk (((w.alloc (.cells #[.int .i64 a, .int .i64 b] 23)).alloc (.cells #[.int .i64 c, .int .i64 d] 23)).alloc (.cells #[.int .i64 0, .int .i64 0] 23)) w.heap.size 23 [.int .i64 a, .int .i64 b] := by
    have := Blk.new (w) [.int .i64 a, .int .i64 b] 23
    exact (this.alloc _).alloc _
  have W0Y : Blk (((w.alloc (.cells #[.int .i64 a, .int .i64 b] 23)).alloc (.cells #[.int .i64 c, .int .i64 d] 23)).alloc (.cells #[.int .i64 0, .int .i64 0] 23)) (w.heap.size + 1) 23 [.int .i64 c, .int .i64 d] := by
    have := Blk.new (w.alloc (.cells #[.int .i64 a, .int .i64 b] 23)) [.int .i64 c, .int .i64 d] 23
    rw [World.size_alloc] at this
    exact this.alloc _
  have W0Z : Blk (((w.alloc (.cells #[.int .i64 a, .int .i64 b] 23)).alloc (.cells #[.int .i64 c, .int .i64 d] 23)).alloc (.cells #[.int .i64 0, .int .i64 0] 23)) (w.heap.size + 1 + 1) 23 [.int .i64 0, .int .i64 0] := by
    have := Blk.new ((w.alloc (.cells #[.int .i64 a, .int .i64 b] 23)).alloc (.cells #[.int .i64 c, .int .i64 d] 23)) [.int .i64 0, .int .i64 0] 23
    rw [World.size_alloc, World.size_alloc] at this
    exact this
  have hE0 : Ext w (((w.alloc (.cells #[.int .i64 a, .int .i64 b] 23)).alloc (.cells #[.int .i64 c, .int .i64 d] 23)).alloc (.cells #[.int .i64 0, .int .i64 0] 23)) := (((Ext.refl w).alloc _).alloc _).alloc _
  go_enter Try.func11, Try.ntmps11
  go_wp2_with fail
  refine (rcheck_yes h1 _).mono ?_
  rintro e1 V1 ⟨rfl, g1⟩
  have W1X := W0X.ext g1
  have W1Y := W0Y.ext g1
  have W1Z := W0Z.ext g1
  have hE1 := hE0.trans g1
  clear W0X W0Y W0Z hE0 g1
  have qX0 := W1X.cell 0 _ rfl
  have qX1 := W1X.cell 1 _ rfl
  have qY0 := W1Y.cell 0 _ rfl
  have qY1 := W1Y.cell 1 _ rfl
  have qZ0 := W1Z.cell 0 _ rfl
  have qZ1 := W1Z.cell 1 _ rfl
  have fZ0 := W1Z.frozen 0
  have fZ1 := W1Z.frozen 1
  go_wp2_with fail
  refine (rcheck_yes h2 _).mono ?_
  rintro e2 V2 ⟨rfl, g2⟩
  have W2X := W1X.ext g2
  have W2Y := W1Y.ext g2
  have W2Z := W1Z.ext g2
  have hE2 := hE1.trans g2
  clear W1X W1Y W1Z hE1 g2
  clear qX0 qX1 qY0 qY1 qZ0 qZ1 fZ0 fZ1
  have qX0 := W2X.cell 0 _ rfl
  have qX1 := W2X.cell 1 _ rfl
  have qY0 := W2Y.cell 0 _ rfl
  have qY1 := W2Y.cell 1 _ rfl
  have qZ0 := W2Z.cell 0 _ rfl
  have qZ1 := W2Z.cell 1 _ rfl
  have fZ0 := W2Z.frozen 0
  have fZ1 := W2Z.frozen 1
  go_wp2_with fail
  refine bodyPost_ret (v := .tuple #[.agg #[.int .i64 0, .int .i64 0], .int .i64 1]) (by simp [results, Try.results11, go_sem, *]) rfl ⟨rfl, ?_⟩
  repeat' (first | exact Ext.refl _ | assumption | (with_reducible refine Ext.alloc ?_ _) | (with_reducible refine Ext.drew ?_) | (with_reducible refine Ext.drewN _ ?_) | (refine Ext.setCell ?_ (by first | exact Nat.le_refl _ | (simp; done) | (simp; omega) | omega) _) | (refine Ext.trans ?_ (by assumption)))
set_option maxHeartbeats 2000000 in
theorem riv_div1 (op a b c d : Int) (h1 : Ivl a b) (h2 : Ivl c d) (k1 : ¬ op < 8) (k2 : ¬ 26 < op) (k3 : (op == 11) = true) (k5 : (c == 0) = true) (w : World) : Calls Try.prog 11 #[.int .i64 op, .agg #[.int .i64 a, .int .i64 b], .agg #[.int .i64 c, .int .i64 d]] w fun x w' => x = .returned (.tuple #[.agg #[.int .i64 0, .int .i64 0], .int .i64 17]) ∧ Ext w w' := by
  have W0X : Blk (((w.alloc (.cells #[.int .i64 a, .int .i64 b] 23)).alloc (.cells #[.int .i64 c, .int .i64 d] 23)).alloc (.cells #[.int .i64 0, .int .i64 0] 23)) w.heap.size 23 [.int .i64 a, .int .i64 b] := by
    have := Blk.new (w) [.int .i64 a, .int .i64 b] 23
    exact (this.alloc _).alloc _
  have W0Y : Blk (((w.alloc (.cells #[.int .i64 a, .int .i64 b] 23)).alloc (.cells #[.int .i64 c, .int .i64 d] 23)).alloc (.cells #[.int .i64 0, .int .i64 0] 23)) (w.heap.size + 1) 23 [.int .i64 c, .int .i64 d] := by
    have := Blk.new (w.alloc (.cells #[.int .i64 a, .int .i64 b] 23)) [.int .i64 c, .int .i64 d] 23
    rw [World.size_alloc] at this
    exact this.alloc _
  have W0Z : Blk (((w.alloc (.cells #[.int .i64 a, .int .i64 b] 23)).alloc (.cells #[.int .i64 c, .int .i64 d] 23)).alloc (.cells #[.int .i64 0, .int .i64 0] 23)) (w.heap.size + 1 + 1) 23 [.int .i64 0, .int .i64 0] := by
    have := Blk.new ((w.alloc (.cells #[.int .i64 a, .int .i64 b] 23)).alloc (.cells #[.int .i64 c, .int .i64 d] 23)) [.int .i64 0, .int .i64 0] 23
    rw [World.size_alloc, World.size_alloc] at this
    exact this
  have hE0 : Ext w (((w.alloc (.cells #[.int .i64 a, .int .i64 b] 23)).alloc (.cells #[.int .i64 c, .int .i64 d] 23)).alloc (.cells #[.int .i64 0, .int .i64 0] 23)) := (((Ext.refl w).alloc _).alloc _).alloc _
  go_enter Try.func11, Try.ntmps11
  go_wp2_with fail
  refine (rcheck_yes h1 _).mono ?_
  rintro e1 V1 ⟨rfl, g1⟩
  have W1X := W0X.ext g1
  have W1Y := W0Y.ext g1
  have W1Z := W0Z.ext g1
  have hE1 := hE0.trans g1
  clear W0X W0Y W0Z hE0 g1
  have qX0 := W1X.cell 0 _ rfl
  have qX1 := W1X.cell 1 _ rfl
  have qY0 := W1Y.cell 0 _ rfl
  have qY1 := W1Y.cell 1 _ rfl
  have qZ0 := W1Z.cell 0 _ rfl
  have qZ1 := W1Z.cell 1 _ rfl
  have fZ0 := W1Z.frozen 0
  have fZ1 := W1Z.frozen 1
  go_wp2_with fail
  refine (rcheck_yes h2 _).mono ?_
  rintro e2 V2 ⟨rfl, g2⟩
  have W2X := W1X.ext g2
  have W2Y := W1Y.ext g2
  have W2Z := W1Z.ext g2
  have hE2 := hE1.trans g2
  clear W1X W1Y W1Z hE1 g2
  clear qX0 qX1 qY0 qY1 qZ0 qZ1 fZ0 fZ1
  have qX0 := W2X.cell 0 _ rfl
  have qX1 := W2X.cell 1 _ rfl
  have qY0 := W2Y.cell 0 _ rfl
  have qY1 := W2Y.cell 1 _ rfl
  have qZ0 := W2Z.cell 0 _ rfl
  have qZ1 := W2Z.cell 1 _ rfl
  have fZ0 := W2Z.frozen 0
  have fZ1 := W2Z.frozen 1
  go_wp2_with fail
  refine bodyPost_ret (v := .tuple #[.agg #[.int .i64 0, .int .i64 0], .int .i64 17]) (by simp [results, Try.results11, go_sem, *]) rfl ⟨rfl, ?_⟩
  repeat' (first | exact Ext.refl _ | assumption | (with_reducible refine Ext.alloc ?_ _) | (with_reducible refine Ext.drew ?_) | (with_reducible refine Ext.drewN _ ?_) | (refine Ext.setCell ?_ (by first | exact Nat.le_refl _ | (simp; done) | (simp; omega) | omega) _) | (refine Ext.trans ?_ (by assumption)))
set_option maxHeartbeats 2000000 in
theorem riv_div2 (op a b c d : Int) (h1 : Ivl a b) (h2 : Ivl c d) (k1 : ¬ op < 8) (k2 : ¬ 26 < op) (k3 : (op == 11) = false) (k4 : (op == 12) = true) (k5 : (c == 0) = true) (w : World) : Calls Try.prog 11 #[.int .i64 op, .agg #[.int .i64 a, .int .i64 b], .agg #[.int .i64 c, .int .i64 d]] w fun x w' => x = .returned (.tuple #[.agg #[.int .i64 0, .int .i64 0], .int .i64 17]) ∧ Ext w w' := by
  have W0X : Blk (((w.alloc (.cells #[.int .i64 a, .int .i64 b] 23)).alloc (.cells #[.int .i64 c, .int .i64 d] 23)).alloc (.cells #[.int .i64 0, .int .i64 0] 23)) w.heap.size 23 [.int .i64 a, .int .i64 b] := by
    have := Blk.new (w) [.int .i64 a, .int .i64 b] 23
    exact (this.alloc _).alloc _
  have W0Y : Blk (((w.alloc (.cells #[.int .i64 a, .int .i64 b] 23)).alloc (.cells #[.int .i64 c, .int .i64 d] 23)).alloc (.cells #[.int .i64 0, .int .i64 0] 23)) (w.heap.size + 1) 23 [.int .i64 c, .int .i64 d] := by
    have := Blk.new (w.alloc (.cells #[.int .i64 a, .int .i64 b] 23)) [.int .i64 c, .int .i64 d] 23
    rw [World.size_alloc] at this
    exact this.alloc _
  have W0Z : Blk (((w.alloc (.cells #[.int .i64 a, .int .i64 b] 23)).alloc (.cells #[.int .i64 c, .int .i64 d] 23)).alloc (.cells #[.int .i64 0, .int .i64 0] 23)) (w.heap.size + 1 + 1) 23 [.int .i64 0, .int .i64 0] := by
    have := Blk.new ((w.alloc (.cells #[.int .i64 a, .int .i64 b] 23)).alloc (.cells #[.int .i64 c, .int .i64 d] 23)) [.int .i64 0, .int .i64 0] 23
    rw [World.size_alloc, World.size_alloc] at this
    exact this
  have hE0 : Ext w (((w.alloc (.cells #[.int .i64 a, .int .i64 b] 23)).alloc (.cells #[.int .i64 c, .int .i64 d] 23)).alloc (.cells #[.int .i64 0, .int .i64 0] 23)) := (((Ext.refl w).alloc _).alloc _).alloc _
  go_enter Try.func11, Try.ntmps11
  go_wp2_with fail
  refine (rcheck_yes h1 _).mono ?_
  rintro e1 V1 ⟨rfl, g1⟩
  have W1X := W0X.ext g1
  have W1Y := W0Y.ext g1
  have W1Z := W0Z.ext g1
  have hE1 := hE0.trans g1
  clear W0X W0Y W0Z hE0 g1
  have qX0 := W1X.cell 0 _ rfl
  have qX1 := W1X.cell 1 _ rfl
  have qY0 := W1Y.cell 0 _ rfl
  have qY1 := W1Y.cell 1 _ rfl
  have qZ0 := W1Z.cell 0 _ rfl
  have qZ1 := W1Z.cell 1 _ rfl
  have fZ0 := W1Z.frozen 0
  have fZ1 := W1Z.frozen 1
  go_wp2_with fail
  refine (rcheck_yes h2 _).mono ?_
  rintro e2 V2 ⟨rfl, g2⟩
  have W2X := W1X.ext g2
  have W2Y := W1Y.ext g2
  have W2Z := W1Z.ext g2
  have hE2 := hE1.trans g2
  clear W1X W1Y W1Z hE1 g2
  clear qX0 qX1 qY0 qY1 qZ0 qZ1 fZ0 fZ1
  have qX0 := W2X.cell 0 _ rfl
  have qX1 := W2X.cell 1 _ rfl
  have qY0 := W2Y.cell 0 _ rfl
  have qY1 := W2Y.cell 1 _ rfl
  have qZ0 := W2Z.cell 0 _ rfl
  have qZ1 := W2Z.cell 1 _ rfl
  have fZ0 := W2Z.frozen 0
  have fZ1 := W2Z.frozen 1
  go_wp2_with fail
  refine bodyPost_ret (v := .tuple #[.agg #[.int .i64 0, .int .i64 0], .int .i64 17]) (by simp [results, Try.results11, go_sem, *]) rfl ⟨rfl, ?_⟩
  repeat' (first | exact Ext.refl _ | assumption | (with_reducible refine Ext.alloc ?_ _) | (with_reducible refine Ext.drew ?_) | (with_reducible refine Ext.drewN _ ?_) | (refine Ext.setCell ?_ (by first | exact Nat.le_refl _ | (simp; done) | (simp; omega) | omega) _) | (refine Ext.trans ?_ (by assumption)))
set_option maxHeartbeats 2000000 in
theorem riv_cmp (op a b c d : Int) (h1 : Ivl a b) (h2 : Ivl c d) (k1 : ¬ op < 8) (k2 : ¬ 26 < op) (k3 : (op == 11) = false) (k4 : (op == 12) = false) (k6 : 20 < op) (w : World) : Calls Try.prog 11 #[.int .i64 op, .agg #[.int .i64 a, .int .i64 b], .agg #[.int .i64 c, .int .i64 d]] w fun x w' => x = .returned (.tuple #[.agg #[.int .i64 0, .int .i64 1], .int .i64 0]) ∧ Ext w w' := by
  have W0X : Blk (((w.alloc (.cells #[.int .i64 a, .int .i64 b] 23)).alloc (.cells #[.int .i64 c, .int .i64 d] 23)).alloc (.cells #[.int .i64 0, .int .i64 0] 23)) w.heap.size 23 [.int .i64 a, .int .i64 b] := by
    have := Blk.new (w) [.int .i64 a, .int .i64 b] 23
    exact (this.alloc _).alloc _
  have W0Y : Blk (((w.alloc (.cells #[.int .i64 a, .int .i64 b] 23)).alloc (.cells #[.int .i64 c, .int .i64 d] 23)).alloc (.cells #[.int .i64 0, .int .i64 0] 23)) (w.heap.size + 1) 23 [.int .i64 c, .int .i64 d] := by
    have := Blk.new (w.alloc (.cells #[.int .i64 a, .int .i64 b] 23)) [.int .i64 c, .int .i64 d] 23
    rw [World.size_alloc] at this
    exact this.alloc _
  have W0Z : Blk (((w.alloc (.cells #[.int .i64 a, .int .i64 b] 23)).alloc (.cells #[.int .i64 c, .int .i64 d] 23)).alloc (.cells #[.int .i64 0, .int .i64 0] 23)) (w.heap.size + 1 + 1) 23 [.int .i64 0, .int .i64 0] := by
    have := Blk.new ((w.alloc (.cells #[.int .i64 a, .int .i64 b] 23)).alloc (.cells #[.int .i64 c, .int .i64 d] 23)) [.int .i64 0, .int .i64 0] 23
    rw [World.size_alloc, World.size_alloc] at this
    exact this
  have hE0 : Ext w (((w.alloc (.cells #[.int .i64 a, .int .i64 b] 23)).alloc (.cells #[.int .i64 c, .int .i64 d] 23)).alloc (.cells #[.int .i64 0, .int .i64 0] 23)) := (((Ext.refl w).alloc _).alloc _).alloc _
  go_enter Try.func11, Try.ntmps11
  go_wp2_with fail
  refine (rcheck_yes h1 _).mono ?_
  rintro e1 V1 ⟨rfl, g1⟩
  have W1X := W0X.ext g1
  have W1Y := W0Y.ext g1
  have W1Z := W0Z.ext g1
  have hE1 := hE0.trans g1
  clear W0X W0Y W0Z hE0 g1
  have qX0 := W1X.cell 0 _ rfl
  have qX1 := W1X.cell 1 _ rfl
  have qY0 := W1Y.cell 0 _ rfl
  have qY1 := W1Y.cell 1 _ rfl
  have qZ0 := W1Z.cell 0 _ rfl
  have qZ1 := W1Z.cell 1 _ rfl
  have fZ0 := W1Z.frozen 0
  have fZ1 := W1Z.frozen 1
  go_wp2_with fail
  refine (rcheck_yes h2 _).mono ?_
  rintro e2 V2 ⟨rfl, g2⟩
  have W2X := W1X.ext g2
  have W2Y := W1Y.ext g2
  have W2Z := W1Z.ext g2
  have hE2 := hE1.trans g2
  clear W1X W1Y W1Z hE1 g2
  clear qX0 qX1 qY0 qY1 qZ0 qZ1 fZ0 fZ1
  have qX0 := W2X.cell 0 _ rfl
  have qX1 := W2X.cell 1 _ rfl
  have qY0 := W2Y.cell 0 _ rfl
  have qY1 := W2Y.cell 1 _ rfl
  have qZ0 := W2Z.cell 0 _ rfl
  have qZ1 := W2Z.cell 1 _ rfl
  have fZ0 := W2Z.frozen 0
  have fZ1 := W2Z.frozen 1
  go_wp2_with fail
  refine bodyPost_ret (v := .tuple #[.agg #[.int .i64 0, .int .i64 1], .int .i64 0]) (by simp [results, Try.results11, go_sem, *]) rfl ⟨rfl, ?_⟩
  repeat' (first | exact Ext.refl _ | assumption | (with_reducible refine Ext.alloc ?_ _) | (with_reducible refine Ext.drew ?_) | (with_reducible refine Ext.drewN _ ?_) | (refine Ext.setCell ?_ (by first | exact Nat.le_refl _ | (simp; done) | (simp; omega) | omega) _) | (refine Ext.trans ?_ (by assumption)))
set_option maxHeartbeats 2000000 in
theorem riv_ra1 (op a b c d : Int) (h1 : Ivl a b) (h2 : Ivl c d) (k1 : ¬ op < 8) (k2 : ¬ 26 < op) (k3 : (op == 11) = true) (k5 : (c == 0) = false) (k6 : ¬ 20 < op) (hz : c = 0 → op ≠ 11 ∧ op ≠ 12) (ka : (a == b) = false) (w : World) : Calls Try.prog 11 #[.int .i64 op, .agg #[.int .i64 a, .int .i64 b], .agg #[.int .i64 c, .int .i64 d]] w fun x w' => x = .returned (.tuple #[.agg #[.int .i64 (rulL op a b c d), .int .i64 (rulH op a b c d)], .int .i64 0]) ∧ Ext w w' := by
  have hr := hidden (rx_any op a b c d (by omega) (by omega) h1 h2 hz)
  obtain ⟨L, hL⟩ : ∃ L, rulL op a b c d = L := ⟨_, rfl⟩
  obtain ⟨H, hH⟩ : ∃ H, rulH op a b c d = H := ⟨_, rfl⟩
  rw [hL, hH] at hr ⊢
  clear hL hH hz
  have W0X : Blk (((w.alloc (.cells #[.int .i64 a, .int .i64 b] 23)).alloc (.cells #[.int .i64 c, .int .i64 d] 23)).alloc (.cells #[.int .i64 0, .int .i64 0] 23)) w.heap.size 23 [.int .i64 a, .int .i64 b] := by
    have := Blk.new (w) [.int .i64 a, .int .i64 b] 23
    exact (this.alloc _).alloc _
  have W0Y : Blk (((w.alloc (.cells #[.int .i64 a, .int .i64 b] 23)).alloc (.cells #[.int .i64 c, .int .i64 d] 23)).alloc (.cells #[.int .i64 0, .int .i64 0] 23)) (w.heap.size + 1) 23 [.int .i64 c, .int .i64 d] := by
    have := Blk.new (w.alloc (.cells #[.int .i64 a, .int .i64 b] 23)) [.int .i64 c, .int .i64 d] 23
    rw [World.size_alloc] at this
    exact this.alloc _
  have W0Z : Blk (((w.alloc (.cells #[.int .i64 a, .int .i64 b] 23)).alloc (.cells #[.int .i64 c, .int .i64 d] 23)).alloc (.cells #[.int .i64 0, .int .i64 0] 23)) (w.heap.size + 1 + 1) 23 [.int .i64 0, .int .i64 0] := by
    have := Blk.new ((w.alloc (.cells #[.int .i64 a, .int .i64 b] 23)).alloc (.cells #[.int .i64 c, .int .i64 d] 23)) [.int .i64 0, .int .i64 0] 23
    rw [World.size_alloc, World.size_alloc] at this
    exact this
  have hE0 : Ext w (((w.alloc (.cells #[.int .i64 a, .int .i64 b] 23)).alloc (.cells #[.int .i64 c, .int .i64 d] 23)).alloc (.cells #[.int .i64 0, .int .i64 0] 23)) := (((Ext.refl w).alloc _).alloc _).alloc _
  go_enter Try.func11, Try.ntmps11
  go_wp2_with fail
  refine (rcheck_yes h1 _).mono ?_
  rintro e1 V1 ⟨rfl, g1⟩
  have W1X := W0X.ext g1
  have W1Y := W0Y.ext g1
  have W1Z := W0Z.ext g1
  have hE1 := hE0.trans g1
  clear W0X W0Y W0Z hE0 g1
  have qX0 := W1X.cell 0 _ rfl
  have qX1 := W1X.cell 1 _ rfl
  have qY0 := W1Y.cell 0 _ rfl
  have qY1 := W1Y.cell 1 _ rfl
  have qZ0 := W1Z.cell 0 _ rfl
  have qZ1 := W1Z.cell 1 _ rfl
  have fZ0 := W1Z.frozen 0
  have fZ1 := W1Z.frozen 1
  go_wp2_with fail
  refine (rcheck_yes h2 _).mono ?_
  rintro e2 V2 ⟨rfl, g2⟩
  have W2X := W1X.ext g2
  have W2Y := W1Y.ext g2
  have W2Z := W1Z.ext g2
  have hE2 := hE1.trans g2
  clear W1X W1Y W1Z hE1 g2
  clear qX0 qX1 qY0 qY1 qZ0 qZ1 fZ0 fZ1
  have qX0 := W2X.cell 0 _ rfl
  have qX1 := W2X.cell 1 _ rfl
  have qY0 := W2Y.cell 0 _ rfl
  have qY1 := W2Y.cell 1 _ rfl
  have qZ0 := W2Z.cell 0 _ rfl
  have qZ1 := W2Z.cell 1 _ rfl
  have fZ0 := W2Z.frozen 0
  have fZ1 := W2Z.frozen 1
  go_wp2_with fail
  refine (hr.out _).mono ?_
  rintro e3 V3 ⟨rfl, g3⟩
  have W3X := W2X.ext g3
  have W3Y := W2Y.ext g3
  have W3Z := W2Z.ext g3
  have hE3 := hE2.trans g3
  clear W2X W2Y W2Z hE2 g3
  clear qX0 qX1 qY0 qY1 qZ0 qZ1 fZ0 fZ1
  have qX0 := W3X.cell 0 _ rfl
  have qX1 := W3X.cell 1 _ rfl
  have qY0 := W3Y.cell 0 _ rfl
  have qY1 := W3Y.cell 1 _ rfl
  have qZ0 := W3Z.cell 0 _ rfl
  have qZ1 := W3Z.cell 1 _ rfl
  have fZ0 := W3Z.frozen 0
  have fZ1 := W3Z.frozen 1
  go_wp2_with fail
  refine bodyPost_ret (v := .tuple #[.agg #[.int .i64 L, .int .i64 H], .int .i64 0]) (by simp [results, Try.results11, go_sem, *]) rfl ⟨rfl, ?_⟩
  repeat' (first | exact Ext.refl _ | assumption | (with_reducible refine Ext.alloc ?_ _) | (with_reducible refine Ext.drew ?_) | (with_reducible refine Ext.drewN _ ?_) | (refine Ext.setCell ?_ (by first | exact Nat.le_refl _ | (simp; done) | (simp; omega) | omega) _) | (refine Ext.trans ?_ (by assumption)))
set_option maxHeartbeats 2000000 in
theorem riv_ra2 (op a b c d : Int) (h1 : Ivl a b) (h2 : Ivl c d) (k1 : ¬ op < 8) (k2 : ¬ 26 < op) (k3 : (op == 11) = true) (k5 : (c == 0) = false) (k6 : ¬ 20 < op) (hz : c = 0 → op ≠ 11 ∧ op ≠ 12) (ka : (a == b) = true) (kd : (c == d) = false) (w : World) : Calls Try.prog 11 #[.int .i64 op, .agg #[.int .i64 a, .int .i64 b], .agg #[.int .i64 c, .int .i64 d]] w fun x w' => x = .returned (.tuple #[.agg #[.int .i64 (rulL op a b c d), .int .i64 (rulH op a b c d)], .int .i64 0]) ∧ Ext w w' := by
  have hr := hidden (rx_any op a b c d (by omega) (by omega) h1 h2 hz)
  obtain ⟨L, hL⟩ : ∃ L, rulL op a b c d = L := ⟨_, rfl⟩
  obtain ⟨H, hH⟩ : ∃ H, rulH op a b c d = H := ⟨_, rfl⟩
  rw [hL, hH] at hr ⊢
  clear hL hH hz
  have W0X : Blk (((w.alloc (.cells #[.int .i64 a, .int .i64 b] 23)).alloc (.cells #[.int .i64 c, .int .i64 d] 23)).alloc (.cells #[.int .i64 0, .int .i64 0] 23)) w.heap.size 23 [.int .i64 a, .int .i64 b] := by
    have := Blk.new (w) [.int .i64 a, .int .i64 b] 23
    exact (this.alloc _).alloc _
  have W0Y : Blk (((w.alloc (.cells #[.int .i64 a, .int .i64 b] 23)).alloc (.cells #[.int .i64 c, .int .i64 d] 23)).alloc (.cells #[.int .i64 0, .int .i64 0] 23)) (w.heap.size + 1) 23 [.int .i64 c, .int .i64 d] := by
    have := Blk.new (w.alloc (.cells #[.int .i64 a, .int .i64 b] 23)) [.int .i64 c, .int .i64 d] 23
    rw [World.size_alloc] at this
    exact this.alloc _
  have W0Z : Blk (((w.alloc (.cells #[.int .i64 a, .int .i64 b] 23)).alloc (.cells #[.int .i64 c, .int .i64 d] 23)).alloc (.cells #[.int .i64 0, .int .i64 0] 23)) (w.heap.size + 1 + 1) 23 [.int .i64 0, .int .i64 0] := by
    have := Blk.new ((w.alloc (.cells #[.int .i64 a, .int .i64 b] 23)).alloc (.cells #[.int .i64 c, .int .i64 d] 23)) [.int .i64 0, .int .i64 0] 23
    rw [World.size_alloc, World.size_alloc] at this
    exact this
  have hE0 : Ext w (((w.alloc (.cells #[.int .i64 a, .int .i64 b] 23)).alloc (.cells #[.int .i64 c, .int .i64 d] 23)).alloc (.cells #[.int .i64 0, .int .i64 0] 23)) := (((Ext.refl w).alloc _).alloc _).alloc _
  go_enter Try.func11, Try.ntmps11
  go_wp2_with fail
  refine (rcheck_yes h1 _).mono ?_
  rintro e1 V1 ⟨rfl, g1⟩
  have W1X := W0X.ext g1
  have W1Y := W0Y.ext g1
  have W1Z := W0Z.ext g1
  have hE1 := hE0.trans g1
  clear W0X W0Y W0Z hE0 g1
  have qX0 := W1X.cell 0 _ rfl
  have qX1 := W1X.cell 1 _ rfl
  have qY0 := W1Y.cell 0 _ rfl
  have qY1 := W1Y.cell 1 _ rfl
  have qZ0 := W1Z.cell 0 _ rfl
  have qZ1 := W1Z.cell 1 _ rfl
  have fZ0 := W1Z.frozen 0
  have fZ1 := W1Z.frozen 1
  go_wp2_with fail
  refine (rcheck_yes h2 _).mono ?_
  rintro e2 V2 ⟨rfl, g2⟩
  have W2X := W1X.ext g2
  have W2Y := W1Y.ext g2
  have W2Z := W1Z.ext g2
  have hE2 := hE1.trans g2
  clear W1X W1Y W1Z hE1 g2
  clear qX0 qX1 qY0 qY1 qZ0 qZ1 fZ0 fZ1
  have qX0 := W2X.cell 0 _ rfl
  have qX1 := W2X.cell 1 _ rfl
  have qY0 := W2Y.cell 0 _ rfl
  have qY1 := W2Y.cell 1 _ rfl
  have qZ0 := W2Z.cell 0 _ rfl
  have qZ1 := W2Z.cell 1 _ rfl
  have fZ0 := W2Z.frozen 0
  have fZ1 := W2Z.frozen 1
  go_wp2_with fail
  refine (hr.out _).mono ?_
  rintro e3 V3 ⟨rfl, g3⟩
  have W3X := W2X.ext g3
  have W3Y := W2Y.ext g3
  have W3Z := W2Z.ext g3
  have hE3 := hE2.trans g3
  clear W2X W2Y W2Z hE2 g3
  clear qX0 qX1 qY0 qY1 qZ0 qZ1 fZ0 fZ1
  have qX0 := W3X.cell 0 _ rfl
  have qX1 := W3X.cell 1 _ rfl
  have qY0 := W3Y.cell 0 _ rfl
  have qY1 := W3Y.cell 1 _ rfl
  have qZ0 := W3Z.cell 0 _ rfl
  have qZ1 := W3Z.cell 1 _ rfl
  have fZ0 := W3Z.frozen 0
  have fZ1 := W3Z.frozen 1
  go_wp2_with fail
  refine bodyPost_ret (v := .tuple #[.agg #[.int .i64 L, .int .i64 H], .int .i64 0]) (by simp [results, Try.results11, go_sem, *]) rfl ⟨rfl, ?_⟩
  repeat' (first | exact Ext.refl _ | assumption | (with_reducible refine Ext.alloc ?_ _) | (with_reducible refine Ext.drew ?_) | (with_reducible refine Ext.drewN _ ?_) | (refine Ext.setCell ?_ (by first | exact Nat.le_refl _ | (simp; done) | (simp; omega) | omega) _) | (refine Ext.trans ?_ (by assumption)))
set_option maxHeartbeats 2000000 in
theorem riv_ea (op a b c d : Int) (h1 : Ivl a b) (h2 : Ivl c d) (k1 : ¬ op < 8) (k2 : ¬ 26 < op) (k3 : (op == 11) = true) (k5 : (c == 0) = false) (k6 : ¬ 20 < op) (hap : apF op a c = (apV op a c, 0)) (hab : a = b) (hcd : c = d) (w : World) : Calls Try.prog 11 #[.int .i64 op, .agg #[.int .i64 a, .int .i64 b], .agg #[.int .i64 c, .int .i64 d]] w fun x w' => x = .returned (.tuple #[.agg #[.int .i64 (apV op a c), .int .i64 (apV op a c)], .int .i64 0]) ∧ Ext w w' := by
  subst hab hcd
  obtain ⟨a0, a1⟩ : 0 ≤ a ∧ a ≤ 4294967295 := ⟨h1.1, h1.2.2⟩
  obtain ⟨c0, c1⟩ : 0 ≤ c ∧ c ≤ 4294967295 := ⟨h2.1, h2.2.2⟩
  have hp := fun w => rapply_any op a c a0 a1 c0 c1 w
  rw [hap] at hp
  obtain ⟨r0, r1⟩ := apV_bd op a c a0 a1 c0 c1
  obtain ⟨R, hR⟩ : ∃ R, apV op a c = R := ⟨_, rfl⟩
  rw [hR] at hp r0 r1 ⊢
  have hp := hidden hp
  clear hR hap
  have W0X : Blk (((w.alloc (.cells #[.int .i64 a, .int .i64 a] 23)).alloc (.cells #[.int .i64 c, .int .i64 c] 23)).alloc (.cells #[.int .i64 0, .int .i64 0] 23)) w.heap.size 23 [.int .i64 a, .int .i64 a] := by
    have := Blk.new (w) [.int .i64 a, .int .i64 a] 23
    exact (this.alloc _).alloc _
  have W0Y : Blk (((w.alloc (.cells #[.int .i64 a, .int .i64 a] 23)).alloc (.cells #[.int .i64 c, .int .i64 c] 23)).alloc (.cells #[.int .i64 0, .int .i64 0] 23)) (w.heap.size + 1) 23 [.int .i64 c, .int .i64 c] := by
    have := Blk.new (w.alloc (.cells #[.int .i64 a, .int .i64 a] 23)) [.int .i64 c, .int .i64 c] 23
    rw [World.size_alloc] at this
    exact this.alloc _
  have W0Z : Blk (((w.alloc (.cells #[.int .i64 a, .int .i64 a] 23)).alloc (.cells #[.int .i64 c, .int .i64 c] 23)).alloc (.cells #[.int .i64 0, .int .i64 0] 23)) (w.heap.size + 1 + 1) 23 [.int .i64 0, .int .i64 0] := by
    have := Blk.new ((w.alloc (.cells #[.int .i64 a, .int .i64 a] 23)).alloc (.cells #[.int .i64 c, .int .i64 c] 23)) [.int .i64 0, .int .i64 0] 23
    rw [World.size_alloc, World.size_alloc] at this
    exact this
  have hE0 : Ext w (((w.alloc (.cells #[.int .i64 a, .int .i64 a] 23)).alloc (.cells #[.int .i64 c, .int .i64 c] 23)).alloc (.cells #[.int .i64 0, .int .i64 0] 23)) := (((Ext.refl w).alloc _).alloc _).alloc _
  go_enter Try.func11, Try.ntmps11
  go_wp2_with fail
  refine (rcheck_yes h1 _).mono ?_
  rintro e1 V1 ⟨rfl, g1⟩
  have W1X := W0X.ext g1
  have W1Y := W0Y.ext g1
  have W1Z := W0Z.ext g1
  have hE1 := hE0.trans g1
  clear W0X W0Y W0Z hE0 g1
  have qX0 := W1X.cell 0 _ rfl
  have qX1 := W1X.cell 1 _ rfl
  have qY0 := W1Y.cell 0 _ rfl
  have qY1 := W1Y.cell 1 _ rfl
  have qZ0 := W1Z.cell 0 _ rfl
  have qZ1 := W1Z.cell 1 _ rfl
  have fZ0 := W1Z.frozen 0
  have fZ1 := W1Z.frozen 1
  go_wp2_with fail
  refine (rcheck_yes h2 _).mono ?_
  rintro e2 V2 ⟨rfl, g2⟩
  have W2X := W1X.ext g2
  have W2Y := W1Y.ext g2
  have W2Z := W1Z.ext g2
  have hE2 := hE1.trans g2
  clear W1X W1Y W1Z hE1 g2
  clear qX0 qX1 qY0 qY1 qZ0 qZ1 fZ0 fZ1
  have qX0 := W2X.cell 0 _ rfl
  have qX1 := W2X.cell 1 _ rfl
  have qY0 := W2Y.cell 0 _ rfl
  have qY1 := W2Y.cell 1 _ rfl
  have qZ0 := W2Z.cell 0 _ rfl
  have qZ1 := W2Z.cell 1 _ rfl
  have fZ0 := W2Z.frozen 0
  have fZ1 := W2Z.frozen 1
  go_wp2_with fail
  refine (hp.out _).mono ?_
  rintro e9 w9 ⟨rfl, rfl⟩
  go_wp2_with fail
  refine (rexact_any R r0 r1 _).mono ?_
  rintro e3 V3 ⟨rfl, g3⟩
  have W3X := W2X.ext g3
  have W3Y := W2Y.ext g3
  have W3Z := W2Z.ext g3
  have hE3 := hE2.trans g3
  clear W2X W2Y W2Z hE2 g3
  clear qX0 qX1 qY0 qY1 qZ0 qZ1 fZ0 fZ1
  have qX0 := W3X.cell 0 _ rfl
  have qX1 := W3X.cell 1 _ rfl
  have qY0 := W3Y.cell 0 _ rfl
  have qY1 := W3Y.cell 1 _ rfl
  have qZ0 := W3Z.cell 0 _ rfl
  have qZ1 := W3Z.cell 1 _ rfl
  have fZ0 := W3Z.frozen 0
  have fZ1 := W3Z.frozen 1
  go_wp2_with fail
  refine bodyPost_ret (v := .tuple #[.agg #[.int .i64 R, .int .i64 R], .int .i64 0]) (by simp [results, Try.results11, go_sem, *]) rfl ⟨rfl, ?_⟩
  repeat' (first | exact Ext.refl _ | assumption | (with_reducible refine Ext.alloc ?_ _) | (with_reducible refine Ext.drew ?_) | (with_reducible refine Ext.drewN _ ?_) | (refine Ext.setCell ?_ (by first | exact Nat.le_refl _ | (simp; done) | (simp; omega) | omega) _) | (refine Ext.trans ?_ (by assumption)))
set_option maxHeartbeats 2000000 in
theorem riv_rb1 (op a b c d : Int) (h1 : Ivl a b) (h2 : Ivl c d) (k1 : ¬ op < 8) (k2 : ¬ 26 < op) (k3 : (op == 11) = false) (k4 : (op == 12) = true) (k5 : (c == 0) = false) (k6 : ¬ 20 < op) (hz : c = 0 → op ≠ 11 ∧ op ≠ 12) (ka : (a == b) = false) (w : World) : Calls Try.prog 11 #[.int .i64 op, .agg #[.int .i64 a, .int .i64 b], .agg #[.int .i64 c, .int .i64 d]] w fun x w' => x = .returned (.tuple #[.agg #[.int .i64 (rulL op a b c d), .int .i64 (rulH op a b c d)], .int .i64 0]) ∧ Ext w w' := by
  have hr := hidden (rx_any op a b c d (by omega) (by omega) h1 h2 hz)
  obtain ⟨L, hL⟩ : ∃ L, rulL op a b c d = L := ⟨_, rfl⟩
  obtain ⟨H, hH⟩ : ∃ H, rulH op a b c d = H := ⟨_, rfl⟩
  rw [hL, hH] at hr ⊢
  clear hL hH hz
  have W0X : Blk (((w.alloc (.cells #[.int .i64 a, .int .i64 b] 23)).alloc (.cells #[.int .i64 c, .int .i64 d] 23)).alloc (.cells #[.int .i64 0, .int .i64 0] 23)) w.heap.size 23 [.int .i64 a, .int .i64 b] := by
    have := Blk.new (w) [.int .i64 a, .int .i64 b] 23
    exact (this.alloc _).alloc _
  have W0Y : Blk (((w.alloc (.cells #[.int .i64 a, .int .i64 b] 23)).alloc (.cells #[.int .i64 c, .int .i64 d] 23)).alloc (.cells #[.int .i64 0, .int .i64 0] 23)) (w.heap.size + 1) 23 [.int .i64 c, .int .i64 d] := by
    have := Blk.new (w.alloc (.cells #[.int .i64 a, .int .i64 b] 23)) [.int .i64 c, .int .i64 d] 23
    rw [World.size_alloc] at this
    exact this.alloc _
  have W0Z : Blk (((w.alloc (.cells #[.int .i64 a, .int .i64 b] 23)).alloc (.cells #[.int .i64 c, .int .i64 d] 23)).alloc (.cells #[.int .i64 0, .int .i64 0] 23)) (w.heap.size + 1 + 1) 23 [.int .i64 0, .int .i64 0] := by
    have := Blk.new ((w.alloc (.cells #[.int .i64 a, .int .i64 b] 23)).alloc (.cells #[.int .i64 c, .int .i64 d] 23)) [.int .i64 0, .int .i64 0] 23
    rw [World.size_alloc, World.size_alloc] at this
    exact this
  have hE0 : Ext w (((w.alloc (.cells #[.int .i64 a, .int .i64 b] 23)).alloc (.cells #[.int .i64 c, .int .i64 d] 23)).alloc (.cells #[.int .i64 0, .int .i64 0] 23)) := (((Ext.refl w).alloc _).alloc _).alloc _
  go_enter Try.func11, Try.ntmps11
  go_wp2_with fail
  refine (rcheck_yes h1 _).mono ?_
  rintro e1 V1 ⟨rfl, g1⟩
  have W1X := W0X.ext g1
  have W1Y := W0Y.ext g1
  have W1Z := W0Z.ext g1
  have hE1 := hE0.trans g1
  clear W0X W0Y W0Z hE0 g1
  have qX0 := W1X.cell 0 _ rfl
  have qX1 := W1X.cell 1 _ rfl
  have qY0 := W1Y.cell 0 _ rfl
  have qY1 := W1Y.cell 1 _ rfl
  have qZ0 := W1Z.cell 0 _ rfl
  have qZ1 := W1Z.cell 1 _ rfl
  have fZ0 := W1Z.frozen 0
  have fZ1 := W1Z.frozen 1
  go_wp2_with fail
  refine (rcheck_yes h2 _).mono ?_
  rintro e2 V2 ⟨rfl, g2⟩
  have W2X := W1X.ext g2
  have W2Y := W1Y.ext g2
  have W2Z := W1Z.ext g2
  have hE2 := hE1.trans g2
  clear W1X W1Y W1Z hE1 g2
  clear qX0 qX1 qY0 qY1 qZ0 qZ1 fZ0 fZ1
  have qX0 := W2X.cell 0 _ rfl
  have qX1 := W2X.cell 1 _ rfl
  have qY0 := W2Y.cell 0 _ rfl
  have qY1 := W2Y.cell 1 _ rfl
  have qZ0 := W2Z.cell 0 _ rfl
  have qZ1 := W2Z.cell 1 _ rfl
  have fZ0 := W2Z.frozen 0
  have fZ1 := W2Z.frozen 1
  go_wp2_with fail
  refine (hr.out _).mono ?_
  rintro e3 V3 ⟨rfl, g3⟩
  have W3X := W2X.ext g3
  have W3Y := W2Y.ext g3
  have W3Z := W2Z.ext g3
  have hE3 := hE2.trans g3
  clear W2X W2Y W2Z hE2 g3
  clear qX0 qX1 qY0 qY1 qZ0 qZ1 fZ0 fZ1
  have qX0 := W3X.cell 0 _ rfl
  have qX1 := W3X.cell 1 _ rfl
  have qY0 := W3Y.cell 0 _ rfl
  have qY1 := W3Y.cell 1 _ rfl
  have qZ0 := W3Z.cell 0 _ rfl
  have qZ1 := W3Z.cell 1 _ rfl
  have fZ0 := W3Z.frozen 0
  have fZ1 := W3Z.frozen 1
  go_wp2_with fail
  refine bodyPost_ret (v := .tuple #[.agg #[.int .i64 L, .int .i64 H], .int .i64 0]) (by simp [results, Try.results11, go_sem, *]) rfl ⟨rfl, ?_⟩
  repeat' (first | exact Ext.refl _ | assumption | (with_reducible refine Ext.alloc ?_ _) | (with_reducible refine Ext.drew ?_) | (with_reducible refine Ext.drewN _ ?_) | (refine Ext.setCell ?_ (by first | exact Nat.le_refl _ | (simp; done) | (simp; omega) | omega) _) | (refine Ext.trans ?_ (by assumption)))
set_option maxHeartbeats 2000000 in
theorem riv_rb2 (op a b c d : Int) (h1 : Ivl a b) (h2 : Ivl c d) (k1 : ¬ op < 8) (k2 : ¬ 26 < op) (k3 : (op == 11) = false) (k4 : (op == 12) = true) (k5 : (c == 0) = false) (k6 : ¬ 20 < op) (hz : c = 0 → op ≠ 11 ∧ op ≠ 12) (ka : (a == b) = true) (kd : (c == d) = false) (w : World) : Calls Try.prog 11 #[.int .i64 op, .agg #[.int .i64 a, .int .i64 b], .agg #[.int .i64 c, .int .i64 d]] w fun x w' => x = .returned (.tuple #[.agg #[.int .i64 (rulL op a b c d), .int .i64 (rulH op a b c d)], .int .i64 0]) ∧ Ext w w' := by
  have hr := hidden (rx_any op a b c d (by omega) (by omega) h1 h2 hz)
  obtain ⟨L, hL⟩ : ∃ L, rulL op a b c d = L := ⟨_, rfl⟩
  obtain ⟨H, hH⟩ : ∃ H, rulH op a b c d = H := ⟨_, rfl⟩
  rw [hL, hH] at hr ⊢
  clear hL hH hz
  have W0X : Blk (((w.alloc (.cells #[.int .i64 a, .int .i64 b] 23)).alloc (.cells #[.int .i64 c, .int .i64 d] 23)).alloc (.cells #[.int .i64 0, .int .i64 0] 23)) w.heap.size 23 [.int .i64 a, .int .i64 b] := by
    have := Blk.new (w) [.int .i64 a, .int .i64 b] 23
    exact (this.alloc _).alloc _
  have W0Y : Blk (((w.alloc (.cells #[.int .i64 a, .int .i64 b] 23)).alloc (.cells #[.int .i64 c, .int .i64 d] 23)).alloc (.cells #[.int .i64 0, .int .i64 0] 23)) (w.heap.size + 1) 23 [.int .i64 c, .int .i64 d] := by
    have := Blk.new (w.alloc (.cells #[.int .i64 a, .int .i64 b] 23)) [.int .i64 c, .int .i64 d] 23
    rw [World.size_alloc] at this
    exact this.alloc _
  have W0Z : Blk (((w.alloc (.cells #[.int .i64 a, .int .i64 b] 23)).alloc (.cells #[.int .i64 c, .int .i64 d] 23)).alloc (.cells #[.int .i64 0, .int .i64 0] 23)) (w.heap.size + 1 + 1) 23 [.int .i64 0, .int .i64 0] := by
    have := Blk.new ((w.alloc (.cells #[.int .i64 a, .int .i64 b] 23)).alloc (.cells #[.int .i64 c, .int .i64 d] 23)) [.int .i64 0, .int .i64 0] 23
    rw [World.size_alloc, World.size_alloc] at this
    exact this
  have hE0 : Ext w (((w.alloc (.cells #[.int .i64 a, .int .i64 b] 23)).alloc (.cells #[.int .i64 c, .int .i64 d] 23)).alloc (.cells #[.int .i64 0, .int .i64 0] 23)) := (((Ext.refl w).alloc _).alloc _).alloc _
  go_enter Try.func11, Try.ntmps11
  go_wp2_with fail
  refine (rcheck_yes h1 _).mono ?_
  rintro e1 V1 ⟨rfl, g1⟩
  have W1X := W0X.ext g1
  have W1Y := W0Y.ext g1
  have W1Z := W0Z.ext g1
  have hE1 := hE0.trans g1
  clear W0X W0Y W0Z hE0 g1
  have qX0 := W1X.cell 0 _ rfl
  have qX1 := W1X.cell 1 _ rfl
  have qY0 := W1Y.cell 0 _ rfl
  have qY1 := W1Y.cell 1 _ rfl
  have qZ0 := W1Z.cell 0 _ rfl
  have qZ1 := W1Z.cell 1 _ rfl
  have fZ0 := W1Z.frozen 0
  have fZ1 := W1Z.frozen 1
  go_wp2_with fail
  refine (rcheck_yes h2 _).mono ?_
  rintro e2 V2 ⟨rfl, g2⟩
  have W2X := W1X.ext g2
  have W2Y := W1Y.ext g2
  have W2Z := W1Z.ext g2
  have hE2 := hE1.trans g2
  clear W1X W1Y W1Z hE1 g2
  clear qX0 qX1 qY0 qY1 qZ0 qZ1 fZ0 fZ1
  have qX0 := W2X.cell 0 _ rfl
  have qX1 := W2X.cell 1 _ rfl
  have qY0 := W2Y.cell 0 _ rfl
  have qY1 := W2Y.cell 1 _ rfl
  have qZ0 := W2Z.cell 0 _ rfl
  have qZ1 := W2Z.cell 1 _ rfl
  have fZ0 := W2Z.frozen 0
  have fZ1 := W2Z.frozen 1
  go_wp2_with fail
  refine (hr.out _).mono ?_
  rintro e3 V3 ⟨rfl, g3⟩
  have W3X := W2X.ext g3
  have W3Y := W2Y.ext g3
  have W3Z := W2Z.ext g3
  have hE3 := hE2.trans g3
  clear W2X W2Y W2Z hE2 g3
  clear qX0 qX1 qY0 qY1 qZ0 qZ1 fZ0 fZ1
  have qX0 := W3X.cell 0 _ rfl
  have qX1 := W3X.cell 1 _ rfl
  have qY0 := W3Y.cell 0 _ rfl
  have qY1 := W3Y.cell 1 _ rfl
  have qZ0 := W3Z.cell 0 _ rfl
  have qZ1 := W3Z.cell 1 _ rfl
  have fZ0 := W3Z.frozen 0
  have fZ1 := W3Z.frozen 1
  go_wp2_with fail
  refine bodyPost_ret (v := .tuple #[.agg #[.int .i64 L, .int .i64 H], .int .i64 0]) (by simp [results, Try.results11, go_sem, *]) rfl ⟨rfl, ?_⟩
  repeat' (first | exact Ext.refl _ | assumption | (with_reducible refine Ext.alloc ?_ _) | (with_reducible refine Ext.drew ?_) | (with_reducible refine Ext.drewN _ ?_) | (refine Ext.setCell ?_ (by first | exact Nat.le_refl _ | (simp; done) | (simp; omega) | omega) _) | (refine Ext.trans ?_ (by assumption)))
set_option maxHeartbeats 2000000 in
theorem riv_eb (op a b c d : Int) (h1 : Ivl a b) (h2 : Ivl c d) (k1 : ¬ op < 8) (k2 : ¬ 26 < op) (k3 : (op == 11) = false) (k4 : (op == 12) = true) (k5 : (c == 0) = false) (k6 : ¬ 20 < op) (hap : apF op a c = (apV op a c, 0)) (hab : a = b) (hcd : c = d) (w : World) : Calls Try.prog 11 #[.int .i64 op, .agg #[.int .i64 a, .int .i64 b], .agg #[.int .i64 c, .int .i64 d]] w fun x w' => x = .returned (.tuple #[.agg #[.int .i64 (apV op a c), .int .i64 (apV op a c)], .int .i64 0]) ∧ Ext w w' := by
  subst hab hcd
  obtain ⟨a0, a1⟩ : 0 ≤ a ∧ a ≤ 4294967295 := ⟨h1.1, h1.2.2⟩
  obtain ⟨c0, c1⟩ : 0 ≤ c ∧ c ≤ 4294967295 := ⟨h2.1, h2.2.2⟩
  have hp := fun w => rapply_any op a c a0 a1 c0 c1 w
  rw [hap] at hp
  obtain ⟨r0, r1⟩ := apV_bd op a c a0 a1 c0 c1
  obtain ⟨R, hR⟩ : ∃ R, apV op a c = R := ⟨_, rfl⟩
  rw [hR] at hp r0 r1 ⊢
  have hp := hidden hp
  clear hR hap
  have W0X : Blk (((w.alloc (.cells #[.int .i64 a, .int .i64 a] 23)).alloc (.cells #[.int .i64 c, .int .i64 c] 23)).alloc (.cells #[.int .i64 0, .int .i64 0] 23)) w.heap.size 23 [.int .i64 a, .int .i64 a] := by
    have := Blk.new (w) [.int .i64 a, .int .i64 a] 23
    exact (this.alloc _).alloc _
  have W0Y : Blk (((w.alloc (.cells #[.int .i64 a, .int .i64 a] 23)).alloc (.cells #[.int .i64 c, .int .i64 c] 23)).alloc (.cells #[.int .i64 0, .int .i64 0] 23)) (w.heap.size + 1) 23 [.int .i64 c, .int .i64 c] := by
    have := Blk.new (w.alloc (.cells #[.int .i64 a, .int .i64 a] 23)) [.int .i64 c, .int .i64 c] 23
    rw [World.size_alloc] at this
    exact this.alloc _
  have W0Z : Blk (((w.alloc (.cells #[.int .i64 a, .int .i64 a] 23)).alloc (.cells #[.int .i64 c, .int .i64 c] 23)).alloc (.cells #[.int .i64 0, .int .i64 0] 23)) (w.heap.size + 1 + 1) 23 [.int .i64 0, .int .i64 0] := by
    have := Blk.new ((w.alloc (.cells #[.int .i64 a, .int .i64 a] 23)).alloc (.cells #[.int .i64 c, .int .i64 c] 23)) [.int .i64 0, .int .i64 0] 23
    rw [World.size_alloc, World.size_alloc] at this
    exact this
  have hE0 : Ext w (((w.alloc (.cells #[.int .i64 a, .int .i64 a] 23)).alloc (.cells #[.int .i64 c, .int .i64 c] 23)).alloc (.cells #[.int .i64 0, .int .i64 0] 23)) := (((Ext.refl w).alloc _).alloc _).alloc _
  go_enter Try.func11, Try.ntmps11
  go_wp2_with fail
  refine (rcheck_yes h1 _).mono ?_
  rintro e1 V1 ⟨rfl, g1⟩
  have W1X := W0X.ext g1
  have W1Y := W0Y.ext g1
  have W1Z := W0Z.ext g1
  have hE1 := hE0.trans g1
  clear W0X W0Y W0Z hE0 g1
  have qX0 := W1X.cell 0 _ rfl
  have qX1 := W1X.cell 1 _ rfl
  have qY0 := W1Y.cell 0 _ rfl
  have qY1 := W1Y.cell 1 _ rfl
  have qZ0 := W1Z.cell 0 _ rfl
  have qZ1 := W1Z.cell 1 _ rfl
  have fZ0 := W1Z.frozen 0
  have fZ1 := W1Z.frozen 1
  go_wp2_with fail
  refine (rcheck_yes h2 _).mono ?_
  rintro e2 V2 ⟨rfl, g2⟩
  have W2X := W1X.ext g2
  have W2Y := W1Y.ext g2
  have W2Z := W1Z.ext g2
  have hE2 := hE1.trans g2
  clear W1X W1Y W1Z hE1 g2
  clear qX0 qX1 qY0 qY1 qZ0 qZ1 fZ0 fZ1
  have qX0 := W2X.cell 0 _ rfl
  have qX1 := W2X.cell 1 _ rfl
  have qY0 := W2Y.cell 0 _ rfl
  have qY1 := W2Y.cell 1 _ rfl
  have qZ0 := W2Z.cell 0 _ rfl
  have qZ1 := W2Z.cell 1 _ rfl
  have fZ0 := W2Z.frozen 0
  have fZ1 := W2Z.frozen 1
  go_wp2_with fail
  refine (hp.out _).mono ?_
  rintro e9 w9 ⟨rfl, rfl⟩
  go_wp2_with fail
  refine (rexact_any R r0 r1 _).mono ?_
  rintro e3 V3 ⟨rfl, g3⟩
  have W3X := W2X.ext g3
  have W3Y := W2Y.ext g3
  have W3Z := W2Z.ext g3
  have hE3 := hE2.trans g3
  clear W2X W2Y W2Z hE2 g3
  clear qX0 qX1 qY0 qY1 qZ0 qZ1 fZ0 fZ1
  have qX0 := W3X.cell 0 _ rfl
  have qX1 := W3X.cell 1 _ rfl
  have qY0 := W3Y.cell 0 _ rfl
  have qY1 := W3Y.cell 1 _ rfl
  have qZ0 := W3Z.cell 0 _ rfl
  have qZ1 := W3Z.cell 1 _ rfl
  have fZ0 := W3Z.frozen 0
  have fZ1 := W3Z.frozen 1
  go_wp2_with fail
  refine bodyPost_ret (v := .tuple #[.agg #[.int .i64 R, .int .i64 R], .int .i64 0]) (by simp [results, Try.results11, go_sem, *]) rfl ⟨rfl, ?_⟩
  repeat' (first | exact Ext.refl _ | assumption | (with_reducible refine Ext.alloc ?_ _) | (with_reducible refine Ext.drew ?_) | (with_reducible refine Ext.drewN _ ?_) | (refine Ext.setCell ?_ (by first | exact Nat.le_refl _ | (simp; done) | (simp; omega) | omega) _) | (refine Ext.trans ?_ (by assumption)))
set_option maxHeartbeats 2000000 in
theorem riv_rc1 (op a b c d : Int) (h1 : Ivl a b) (h2 : Ivl c d) (k1 : ¬ op < 8) (k2 : ¬ 26 < op) (k3 : (op == 11) = false) (k4 : (op == 12) = false) (k6 : ¬ 20 < op) (hz : c = 0 → op ≠ 11 ∧ op ≠ 12) (ka : (a == b) = false) (w : World) : Calls Try.prog 11 #[.int .i64 op, .agg #[.int .i64 a, .int .i64 b], .agg #[.int .i64 c, .int .i64 d]] w fun x w' => x = .returned (.tuple #[.agg #[.int .i64 (rulL op a b c d), .int .i64 (rulH op a b c d)], .int .i64 0]) ∧ Ext w w' := by
  have hr := hidden (rx_any op a b c d (by omega) (by omega) h1 h2 hz)
  obtain ⟨L, hL⟩ : ∃ L, rulL op a b c d = L := ⟨_, rfl⟩
  obtain ⟨H, hH⟩ : ∃ H, rulH op a b c d = H := ⟨_, rfl⟩
  rw [hL, hH] at hr ⊢
  clear hL hH hz
  have W0X : Blk (((w.alloc (.cells #[.int .i64 a, .int .i64 b] 23)).alloc (.cells #[.int .i64 c, .int .i64 d] 23)).alloc (.cells #[.int .i64 0, .int .i64 0] 23)) w.heap.size 23 [.int .i64 a, .int .i64 b] := by
    have := Blk.new (w) [.int .i64 a, .int .i64 b] 23
    exact (this.alloc _).alloc _
  have W0Y : Blk (((w.alloc (.cells #[.int .i64 a, .int .i64 b] 23)).alloc (.cells #[.int .i64 c, .int .i64 d] 23)).alloc (.cells #[.int .i64 0, .int .i64 0] 23)) (w.heap.size + 1) 23 [.int .i64 c, .int .i64 d] := by
    have := Blk.new (w.alloc (.cells #[.int .i64 a, .int .i64 b] 23)) [.int .i64 c, .int .i64 d] 23
    rw [World.size_alloc] at this
    exact this.alloc _
  have W0Z : Blk (((w.alloc (.cells #[.int .i64 a, .int .i64 b] 23)).alloc (.cells #[.int .i64 c, .int .i64 d] 23)).alloc (.cells #[.int .i64 0, .int .i64 0] 23)) (w.heap.size + 1 + 1) 23 [.int .i64 0, .int .i64 0] := by
    have := Blk.new ((w.alloc (.cells #[.int .i64 a, .int .i64 b] 23)).alloc (.cells #[.int .i64 c, .int .i64 d] 23)) [.int .i64 0, .int .i64 0] 23
    rw [World.size_alloc, World.size_alloc] at this
    exact this
  have hE0 : Ext w (((w.alloc (.cells #[.int .i64 a, .int .i64 b] 23)).alloc (.cells #[.int .i64 c, .int .i64 d] 23)).alloc (.cells #[.int .i64 0, .int .i64 0] 23)) := (((Ext.refl w).alloc _).alloc _).alloc _
  go_enter Try.func11, Try.ntmps11
  go_wp2_with fail
  refine (rcheck_yes h1 _).mono ?_
  rintro e1 V1 ⟨rfl, g1⟩
  have W1X := W0X.ext g1
  have W1Y := W0Y.ext g1
  have W1Z := W0Z.ext g1
  have hE1 := hE0.trans g1
  clear W0X W0Y W0Z hE0 g1
  have qX0 := W1X.cell 0 _ rfl
  have qX1 := W1X.cell 1 _ rfl
  have qY0 := W1Y.cell 0 _ rfl
  have qY1 := W1Y.cell 1 _ rfl
  have qZ0 := W1Z.cell 0 _ rfl
  have qZ1 := W1Z.cell 1 _ rfl
  have fZ0 := W1Z.frozen 0
  have fZ1 := W1Z.frozen 1
  go_wp2_with fail
  refine (rcheck_yes h2 _).mono ?_
  rintro e2 V2 ⟨rfl, g2⟩
  have W2X := W1X.ext g2
  have W2Y := W1Y.ext g2
  have W2Z := W1Z.ext g2
  have hE2 := hE1.trans g2
  clear W1X W1Y W1Z hE1 g2
  clear qX0 qX1 qY0 qY1 qZ0 qZ1 fZ0 fZ1
  have qX0 := W2X.cell 0 _ rfl
  have qX1 := W2X.cell 1 _ rfl
  have qY0 := W2Y.cell 0 _ rfl
  have qY1 := W2Y.cell 1 _ rfl
  have qZ0 := W2Z.cell 0 _ rfl
  have qZ1 := W2Z.cell 1 _ rfl
  have fZ0 := W2Z.frozen 0
  have fZ1 := W2Z.frozen 1
  go_wp2_with fail
  refine (hr.out _).mono ?_
  rintro e3 V3 ⟨rfl, g3⟩
  have W3X := W2X.ext g3
  have W3Y := W2Y.ext g3
  have W3Z := W2Z.ext g3
  have hE3 := hE2.trans g3
  clear W2X W2Y W2Z hE2 g3
  clear qX0 qX1 qY0 qY1 qZ0 qZ1 fZ0 fZ1
  have qX0 := W3X.cell 0 _ rfl
  have qX1 := W3X.cell 1 _ rfl
  have qY0 := W3Y.cell 0 _ rfl
  have qY1 := W3Y.cell 1 _ rfl
  have qZ0 := W3Z.cell 0 _ rfl
  have qZ1 := W3Z.cell 1 _ rfl
  have fZ0 := W3Z.frozen 0
  have fZ1 := W3Z.frozen 1
  go_wp2_with fail
  refine bodyPost_ret (v := .tuple #[.agg #[.int .i64 L, .int .i64 H], .int .i64 0]) (by simp [results, Try.results11, go_sem, *]) rfl ⟨rfl, ?_⟩
  repeat' (first | exact Ext.refl _ | assumption | (with_reducible refine Ext.alloc ?_ _) | (with_reducible refine Ext.drew ?_) | (with_reducible refine Ext.drewN _ ?_) | (refine Ext.setCell ?_ (by first | exact Nat.le_refl _ | (simp; done) | (simp; omega) | omega) _) | (refine Ext.trans ?_ (by assumption)))
set_option maxHeartbeats 2000000 in
theorem riv_rc2 (op a b c d : Int) (h1 : Ivl a b) (h2 : Ivl c d) (k1 : ¬ op < 8) (k2 : ¬ 26 < op) (k3 : (op == 11) = false) (k4 : (op == 12) = false) (k6 : ¬ 20 < op) (hz : c = 0 → op ≠ 11 ∧ op ≠ 12) (ka : (a == b) = true) (kd : (c == d) = false) (w : World) : Calls Try.prog 11 #[.int .i64 op, .agg #[.int .i64 a, .int .i64 b], .agg #[.int .i64 c, .int .i64 d]] w fun x w' => x = .returned (.tuple #[.agg #[.int .i64 (rulL op a b c d), .int .i64 (rulH op a b c d)], .int .i64 0]) ∧ Ext w w' := by
  have hr := hidden (rx_any op a b c d (by omega) (by omega) h1 h2 hz)
  obtain ⟨L, hL⟩ : ∃ L, rulL op a b c d = L := ⟨_, rfl⟩
  obtain ⟨H, hH⟩ : ∃ H, rulH op a b c d = H := ⟨_, rfl⟩
  rw [hL, hH] at hr ⊢
  clear hL hH hz
  have W0X : Blk (((w.alloc (.cells #[.int .i64 a, .int .i64 b] 23)).alloc (.cells #[.int .i64 c, .int .i64 d] 23)).alloc (.cells #[.int .i64 0, .int .i64 0] 23)) w.heap.size 23 [.int .i64 a, .int .i64 b] := by
    have := Blk.new (w) [.int .i64 a, .int .i64 b] 23
    exact (this.alloc _).alloc _
  have W0Y : Blk (((w.alloc (.cells #[.int .i64 a, .int .i64 b] 23)).alloc (.cells #[.int .i64 c, .int .i64 d] 23)).alloc (.cells #[.int .i64 0, .int .i64 0] 23)) (w.heap.size + 1) 23 [.int .i64 c, .int .i64 d] := by
    have := Blk.new (w.alloc (.cells #[.int .i64 a, .int .i64 b] 23)) [.int .i64 c, .int .i64 d] 23
    rw [World.size_alloc] at this
    exact this.alloc _
  have W0Z : Blk (((w.alloc (.cells #[.int .i64 a, .int .i64 b] 23)).alloc (.cells #[.int .i64 c, .int .i64 d] 23)).alloc (.cells #[.int .i64 0, .int .i64 0] 23)) (w.heap.size + 1 + 1) 23 [.int .i64 0, .int .i64 0] := by
    have := Blk.new ((w.alloc (.cells #[.int .i64 a, .int .i64 b] 23)).alloc (.cells #[.int .i64 c, .int .i64 d] 23)) [.int .i64 0, .int .i64 0] 23
    rw [World.size_alloc, World.size_alloc] at this
    exact this
  have hE0 : Ext w (((w.alloc (.cells #[.int .i64 a, .int .i64 b] 23)).alloc (.cells #[.int .i64 c, .int .i64 d] 23)).alloc (.cells #[.int .i64 0, .int .i64 0] 23)) := (((Ext.refl w).alloc _).alloc _).alloc _
  go_enter Try.func11, Try.ntmps11
  go_wp2_with fail
  refine (rcheck_yes h1 _).mono ?_
  rintro e1 V1 ⟨rfl, g1⟩
  have W1X := W0X.ext g1
  have W1Y := W0Y.ext g1
  have W1Z := W0Z.ext g1
  have hE1 := hE0.trans g1
  clear W0X W0Y W0Z hE0 g1
  have qX0 := W1X.cell 0 _ rfl
  have qX1 := W1X.cell 1 _ rfl
  have qY0 := W1Y.cell 0 _ rfl
  have qY1 := W1Y.cell 1 _ rfl
  have qZ0 := W1Z.cell 0 _ rfl
  have qZ1 := W1Z.cell 1 _ rfl
  have fZ0 := W1Z.frozen 0
  have fZ1 := W1Z.frozen 1
  go_wp2_with fail
  refine (rcheck_yes h2 _).mono ?_
  rintro e2 V2 ⟨rfl, g2⟩
  have W2X := W1X.ext g2
  have W2Y := W1Y.ext g2
  have W2Z := W1Z.ext g2
  have hE2 := hE1.trans g2
  clear W1X W1Y W1Z hE1 g2
  clear qX0 qX1 qY0 qY1 qZ0 qZ1 fZ0 fZ1
  have qX0 := W2X.cell 0 _ rfl
  have qX1 := W2X.cell 1 _ rfl
  have qY0 := W2Y.cell 0 _ rfl
  have qY1 := W2Y.cell 1 _ rfl
  have qZ0 := W2Z.cell 0 _ rfl
  have qZ1 := W2Z.cell 1 _ rfl
  have fZ0 := W2Z.frozen 0
  have fZ1 := W2Z.frozen 1
  go_wp2_with fail
  refine (hr.out _).mono ?_
  rintro e3 V3 ⟨rfl, g3⟩
  have W3X := W2X.ext g3
  have W3Y := W2Y.ext g3
  have W3Z := W2Z.ext g3
  have hE3 := hE2.trans g3
  clear W2X W2Y W2Z hE2 g3
  clear qX0 qX1 qY0 qY1 qZ0 qZ1 fZ0 fZ1
  have qX0 := W3X.cell 0 _ rfl
  have qX1 := W3X.cell 1 _ rfl
  have qY0 := W3Y.cell 0 _ rfl
  have qY1 := W3Y.cell 1 _ rfl
  have qZ0 := W3Z.cell 0 _ rfl
  have qZ1 := W3Z.cell 1 _ rfl
  have fZ0 := W3Z.frozen 0
  have fZ1 := W3Z.frozen 1
  go_wp2_with fail
  refine bodyPost_ret (v := .tuple #[.agg #[.int .i64 L, .int .i64 H], .int .i64 0]) (by simp [results, Try.results11, go_sem, *]) rfl ⟨rfl, ?_⟩
  repeat' (first | exact Ext.refl _ | assumption | (with_reducible refine Ext.alloc ?_ _) | (with_reducible refine Ext.drew ?_) | (with_reducible refine Ext.drewN _ ?_) | (refine Ext.setCell ?_ (by first | exact Nat.le_refl _ | (simp; done) | (simp; omega) | omega) _) | (refine Ext.trans ?_ (by assumption)))
set_option maxHeartbeats 2000000 in
theorem riv_ec (op a b c d : Int) (h1 : Ivl a b) (h2 : Ivl c d) (k1 : ¬ op < 8) (k2 : ¬ 26 < op) (k3 : (op == 11) = false) (k4 : (op == 12) = false) (k6 : ¬ 20 < op) (hap : apF op a c = (apV op a c, 0)) (hab : a = b) (hcd : c = d) (w : World) : Calls Try.prog 11 #[.int .i64 op, .agg #[.int .i64 a, .int .i64 b], .agg #[.int .i64 c, .int .i64 d]] w fun x w' => x = .returned (.tuple #[.agg #[.int .i64 (apV op a c), .int .i64 (apV op a c)], .int .i64 0]) ∧ Ext w w' := by
  subst hab hcd
  obtain ⟨a0, a1⟩ : 0 ≤ a ∧ a ≤ 4294967295 := ⟨h1.1, h1.2.2⟩
  obtain ⟨c0, c1⟩ : 0 ≤ c ∧ c ≤ 4294967295 := ⟨h2.1, h2.2.2⟩
  have hp := fun w => rapply_any op a c a0 a1 c0 c1 w
  rw [hap] at hp
  obtain ⟨r0, r1⟩ := apV_bd op a c a0 a1 c0 c1
  obtain ⟨R, hR⟩ : ∃ R, apV op a c = R := ⟨_, rfl⟩
  rw [hR] at hp r0 r1 ⊢
  have hp := hidden hp
  clear hR hap
  have W0X : Blk (((w.alloc (.cells #[.int .i64 a, .int .i64 a] 23)).alloc (.cells #[.int .i64 c, .int .i64 c] 23)).alloc (.cells #[.int .i64 0, .int .i64 0] 23)) w.heap.size 23 [.int .i64 a, .int .i64 a] := by
    have := Blk.new (w) [.int .i64 a, .int .i64 a] 23
    exact (this.alloc _).alloc _
  have W0Y : Blk (((w.alloc (.cells #[.int .i64 a, .int .i64 a] 23)).alloc (.cells #[.int .i64 c, .int .i64 c] 23)).alloc (.cells #[.int .i64 0, .int .i64 0] 23)) (w.heap.size + 1) 23 [.int .i64 c, .int .i64 c] := by
    have := Blk.new (w.alloc (.cells #[.int .i64 a, .int .i64 a] 23)) [.int .i64 c, .int .i64 c] 23
    rw [World.size_alloc] at this
    exact this.alloc _
  have W0Z : Blk (((w.alloc (.cells #[.int .i64 a, .int .i64 a] 23)).alloc (.cells #[.int .i64 c, .int .i64 c] 23)).alloc (.cells #[.int .i64 0, .int .i64 0] 23)) (w.heap.size + 1 + 1) 23 [.int .i64 0, .int .i64 0] := by
    have := Blk.new ((w.alloc (.cells #[.int .i64 a, .int .i64 a] 23)).alloc (.cells #[.int .i64 c, .int .i64 c] 23)) [.int .i64 0, .int .i64 0] 23
    rw [World.size_alloc, World.size_alloc] at this
    exact this
  have hE0 : Ext w (((w.alloc (.cells #[.int .i64 a, .int .i64 a] 23)).alloc (.cells #[.int .i64 c, .int .i64 c] 23)).alloc (.cells #[.int .i64 0, .int .i64 0] 23)) := (((Ext.refl w).alloc _).alloc _).alloc _
  go_enter Try.func11, Try.ntmps11
  go_wp2_with fail
  refine (rcheck_yes h1 _).mono ?_
  rintro e1 V1 ⟨rfl, g1⟩
  have W1X := W0X.ext g1
  have W1Y := W0Y.ext g1
  have W1Z := W0Z.ext g1
  have hE1 := hE0.trans g1
  clear W0X W0Y W0Z hE0 g1
  have qX0 := W1X.cell 0 _ rfl
  have qX1 := W1X.cell 1 _ rfl
  have qY0 := W1Y.cell 0 _ rfl
  have qY1 := W1Y.cell 1 _ rfl
  have qZ0 := W1Z.cell 0 _ rfl
  have qZ1 := W1Z.cell 1 _ rfl
  have fZ0 := W1Z.frozen 0
  have fZ1 := W1Z.frozen 1
  go_wp2_with fail
  refine (rcheck_yes h2 _).mono ?_
  rintro e2 V2 ⟨rfl, g2⟩
  have W2X := W1X.ext g2
  have W2Y := W1Y.ext g2
  have W2Z := W1Z.ext g2
  have hE2 := hE1.trans g2
  clear W1X W1Y W1Z hE1 g2
  clear qX0 qX1 qY0 qY1 qZ0 qZ1 fZ0 fZ1
  have qX0 := W2X.cell 0 _ rfl
  have qX1 := W2X.cell 1 _ rfl
  have qY0 := W2Y.cell 0 _ rfl
  have qY1 := W2Y.cell 1 _ rfl
  have qZ0 := W2Z.cell 0 _ rfl
  have qZ1 := W2Z.cell 1 _ rfl
  have fZ0 := W2Z.frozen 0
  have fZ1 := W2Z.frozen 1
  go_wp2_with fail
  refine (hp.out _).mono ?_
  rintro e9 w9 ⟨rfl, rfl⟩
  go_wp2_with fail
  refine (rexact_any R r0 r1 _).mono ?_
  rintro e3 V3 ⟨rfl, g3⟩
  have W3X := W2X.ext g3
  have W3Y := W2Y.ext g3
  have W3Z := W2Z.ext g3
  have hE3 := hE2.trans g3
  clear W2X W2Y W2Z hE2 g3
  clear qX0 qX1 qY0 qY1 qZ0 qZ1 fZ0 fZ1
  have qX0 := W3X.cell 0 _ rfl
  have qX1 := W3X.cell 1 _ rfl
  have qY0 := W3Y.cell 0 _ rfl
  have qY1 := W3Y.cell 1 _ rfl
  have qZ0 := W3Z.cell 0 _ rfl
  have qZ1 := W3Z.cell 1 _ rfl
  have fZ0 := W3Z.frozen 0
  have fZ1 := W3Z.frozen 1
  go_wp2_with fail
  refine bodyPost_ret (v := .tuple #[.agg #[.int .i64 R, .int .i64 R], .int .i64 0]) (by simp [results, Try.results11, go_sem, *]) rfl ⟨rfl, ?_⟩
  repeat' (first | exact Ext.refl _ | assumption | (with_reducible refine Ext.alloc ?_ _) | (with_reducible refine Ext.drew ?_) | (with_reducible refine Ext.drewN _ ?_) | (refine Ext.setCell ?_ (by first | exact Nat.le_refl _ | (simp; done) | (simp; omega) | omega) _) | (refine Ext.trans ?_ (by assumption)))
set_option maxHeartbeats 1000000 in
theorem rivapply_any (op a b c d : Int) (w : World) : Calls Try.prog 11 #[.int .i64 op, .agg #[.int .i64 a, .int .i64 b], .agg #[.int .i64 c, .int .i64 d]] w fun x w' => x = .returned (.tuple #[.agg #[.int .i64 (iaF op a b c d).1, .int .i64 (iaF op a b c d).2.1], .int .i64 (iaF op a b c d).2.2]) ∧ Ext w w' := by
  by_cases h1 : Ivl a b
  · by_cases h2 : Ivl c d
    · have e1 := chk_ok h1
      have e2 := chk_ok h2
      by_cases hop : op < 8 ∨ 26 < op
      · rw [show iaF op a b c d = (0, 0, 1) by unfold iaF; rw [if_neg (by omega), if_neg (by omega), if_pos hop]]
        by_cases k : op < 8
        · exact riv_arg1 op a b c d h1 h2 k w
        · exact riv_arg2 op a b c d h1 h2 k (by omega) w
      · have k1 : ¬ op < 8 := by omega
        have k2 : ¬ 26 < op := by omega
        by_cases hz : c = 0 ∧ (op = 11 ∨ op = 12)
        · rw [show iaF op a b c d = (0, 0, 17) by unfold iaF; rw [if_neg (by omega), if_neg (by omega), if_neg hop, if_pos hz]]
          by_cases k : op = 11
          · exact riv_div1 op a b c d h1 h2 k1 k2 (by simp [k]) (by simp [hz.1]) w
          · exact riv_div2 op a b c d h1 h2 k1 k2 (by simp [k]) (by simp; omega) (by simp [hz.1]) w
        · by_cases hcmp : 20 < op
          · rw [show iaF op a b c d = (0, 1, 0) by unfold iaF; rw [if_neg (by omega), if_neg (by omega), if_neg hop, if_neg hz, if_pos hcmp]]
            exact riv_cmp op a b c d h1 h2 k1 k2 (by simp; omega) (by simp; omega) hcmp w
          · have hz' : c = 0 → op ≠ 11 ∧ op ≠ 12 := by intro e; omega
            by_cases hex : a = b ∧ c = d
            · rw [show iaF op a b c d = (apV op a c, apV op a c, 0) by unfold iaF; rw [if_neg (by omega), if_neg (by omega), if_neg hop, if_neg hz, if_neg hcmp, if_pos hex]]
              have hap : apF op a c = (apV op a c, 0) := apF_in (by omega) (by omega) (by omega)
              by_cases k : op = 11
              · exact riv_ea op a b c d h1 h2 k1 k2 (by simp [k]) (by simp; omega) hcmp hap hex.1 hex.2 w
              · by_cases k' : op = 12
                · exact riv_eb op a b c d h1 h2 k1 k2 (by simp [k]) (by simp [k']) (by simp; omega) hcmp hap hex.1 hex.2 w
                · exact riv_ec op a b c d h1 h2 k1 k2 (by simp [k]) (by simp [k']) hcmp hap hex.1 hex.2 w
            · rw [show iaF op a b c d = (rulL op a b c d, rulH op a b c d, 0) by unfold iaF; rw [if_neg (by omega), if_neg (by omega), if_neg hop, if_neg hz, if_neg hcmp, if_neg hex]]
              by_cases m : a = b
              · have m' : c ≠ d := fun e => hex ⟨m, e⟩
                by_cases k : op = 11
                · exact riv_ra2 op a b c d h1 h2 k1 k2 (by simp [k]) (by simp; omega) hcmp hz' (by simp [m]) (by simp [m']) w
                · by_cases k' : op = 12
                  · exact riv_rb2 op a b c d h1 h2 k1 k2 (by simp [k]) (by simp [k']) (by simp; omega) hcmp hz' (by simp [m]) (by simp [m']) w
                  · exact riv_rc2 op a b c d h1 h2 k1 k2 (by simp [k]) (by simp [k']) hcmp hz' (by simp [m]) (by simp [m']) w
              · by_cases k : op = 11
                · exact riv_ra1 op a b c d h1 h2 k1 k2 (by simp [k]) (by simp; omega) hcmp hz' (by simp [m]) w
                · by_cases k' : op = 12
                  · exact riv_rb1 op a b c d h1 h2 k1 k2 (by simp [k]) (by simp [k']) (by simp; omega) hcmp hz' (by simp [m]) w
                  · exact riv_rc1 op a b c d h1 h2 k1 k2 (by simp [k]) (by simp [k']) hcmp hz' (by simp [m]) w
    · rw [show iaF op a b c d = (0, 0, chk c d) by unfold iaF; rw [if_neg (by have := chk_ok h1; omega), if_pos (fun e => h2 ((chk_iff c d).1 e))]]
      exact riv_bad2 op a b c d h1 h2 w
  · rw [show iaF op a b c d = (0, 0, chk a b) by unfold iaF; rw [if_pos (fun e => h1 ((chk_iff a b).1 e))]]
    exact riv_bad1 op a b c d h1 w
end Go.Proofs.Ytbpnagamcohlnaa
