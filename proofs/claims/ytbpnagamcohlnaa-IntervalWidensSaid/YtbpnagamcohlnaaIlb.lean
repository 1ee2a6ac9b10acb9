/- The walk of IntervalLeast. -/
import Derived.Test.YtbpnagamcohlnaaIla
namespace Go.Proofs.Ytbpnagamcohlnaa
open Go.RowKit
set_option linter.unusedVariables false


theorem join_yes {a b c d : Int} (h1 : Ivl a b) (h2 : Ivl c d) : joinL a b c d = min a c ∧ joinH a b c d = max b d := by
  have h := (ord_iff a b c d).2 ⟨h1, h2⟩
  simp [joinL, joinH, h]
theorem join_ivl {a b c d : Int} (h1 : Ivl a b) (h2 : Ivl c d) : Ivl (min a c) (max b d) := by unfold Ivl at *; omega
theorem wit_iff (a b c d : Int) : witB a b c d = true ↔ Ivl a b ∧ Ivl c d ∧ c ≤ a ∧ b ≤ d := by simp [witB, ord_iff, and_assoc]
/-- What IntervalLeast asks, in plain words. -/
theorem least_law {a b c d e f : Int} (h1 : Ivl a b) (h2 : Ivl c d) (h3 : Ivl e f) : ∃ jl jh kl kh ml mh, Ivl jl jh ∧
    joinL a b c d = jl ∧ joinH a b c d = jh ∧ joinL c d a b = jl ∧ joinH c d a b = jh ∧ joinL jl jh e f = kl ∧ joinH jl jh e f = kh ∧ joinL c d e f = ml ∧ joinH c d e f = mh ∧ joinL a b ml mh = kl ∧ joinH a b ml mh = kh ∧
    witB a b jl jh = true ∧ witB c d jl jh = true ∧ (witB a b e f = true → witB c d e f = true → witB jl jh e f = true) := by
  have hj := join_ivl h1 h2
  have hm := join_ivl h2 h3
  obtain ⟨q1, q2⟩ := join_yes h1 h2
  obtain ⟨q3, q4⟩ := join_yes h2 h1
  obtain ⟨q5, q6⟩ := join_yes hj h3
  obtain ⟨q7, q8⟩ := join_yes h2 h3
  obtain ⟨q9, q10⟩ := join_yes h1 hm
  refine ⟨min a c, max b d, min (min a c) e, max (max b d) f, min c e, max d f, hj, q1, q2, by rw [q3]; omega, by rw [q4]; omega, q5, q6, q7, q8, by rw [q9]; omega, by rw [q10]; omega, ?_, ?_, ?_⟩
  · rw [wit_iff]; exact ⟨h1, hj, by omega, by omega⟩
  · rw [wit_iff]; exact ⟨h2, hj, by omega, by omega⟩
  · rw [wit_iff, wit_iff, wit_iff]; rintro ⟨_, _, r1, r2⟩ ⟨_, _, r3, r4⟩; exact ⟨hj, h3, by omega, by omega⟩
set_option maxHeartbeats 2000000 in
theorem least_b1 (a b c d e f : Int) (h1 : ¬ Ivl a b) (w : World) : Calls Try.prog 9 #[.agg #[.int .i64 a, .int .i64 b], .agg #[.int .i64 c, .int .i64 d], .agg #[.int .i64 e, .int .i64 f]] w fun x w' => x = .returned (.bool true) ∧ Ext w w' := by
  have Bx : Blk (((w.alloc (.cells #[.int .i64 a, .int .i64 b] 23)).alloc (.cells #[.int .i64 c, .int .i64 d] 23)).alloc (.cells #[.int .i64 e, .int .i64 f] 23)) (w.heap.size) 23 [.int .i64 a, .int .i64 b] := by
    have := Blk.new (w) [.int .i64 a, .int .i64 b] 23
    exact ((this).alloc _).alloc _
  have By : Blk (((w.alloc (.cells #[.int .i64 a, .int .i64 b] 23)).alloc (.cells #[.int .i64 c, .int .i64 d] 23)).alloc (.cells #[.int .i64 e, .int .i64 f] 23)) (w.heap.size + 1) 23 [.int .i64 c, .int .i64 d] := by
    have := Blk.new (w.alloc (.cells #[.int .i64 a, .int .i64 b] 23)) [.int .i64 c, .int .i64 d] 23
    rw [World.size_alloc] at this
    exact (this).alloc _
  have Bz : Blk (((w.alloc (.cells #[.int .i64 a, .int .i64 b] 23)).alloc (.cells #[.int .i64 c, .int .i64 d] 23)).alloc (.cells #[.int .i64 e, .int .i64 f] 23)) (w.heap.size + 1 + 1) 23 [.int .i64 e, .int .i64 f] := by
    have := Blk.new ((w.alloc (.cells #[.int .i64 a, .int .i64 b] 23)).alloc (.cells #[.int .i64 c, .int .i64 d] 23)) [.int .i64 e, .int .i64 f] 23
    rw [World.size_alloc, World.size_alloc] at this
    exact this
  have E0 : Ext w (((w.alloc (.cells #[.int .i64 a, .int .i64 b] 23)).alloc (.cells #[.int .i64 c, .int .i64 d] 23)).alloc (.cells #[.int .i64 e, .int .i64 f] 23)) := (((Ext.refl w).alloc _).alloc _).alloc _
  go_enter Try.func9, Try.ntmps9
  go_upto_region 1 with fail
  obtain ⟨V0, hV⟩ : ∃ V, ((w.alloc (.cells #[.int .i64 a, .int .i64 b] 23)).alloc (.cells #[.int .i64 c, .int .i64 d] 23)).alloc (.cells #[.int .i64 e, .int .i64 f] 23) = V := ⟨_, rfl⟩
  rw [hV] at Bx By Bz E0 ⊢
  clear hV
  have hx0 := Bx.cell 0 _ rfl
  have hx1 := Bx.cell 1 _ rfl
  have hy0 := By.cell 0 _ rfl
  have hy1 := By.cell 1 _ rfl
  have hz0 := Bz.cell 0 _ rfl
  have hz1 := Bz.cell 1 _ rfl
  go_wp2_with fail
  refine (check_no h1 _).mono ?_
  rintro e1 w1 ⟨k1, kb1, kc1, kd1, rfl, g1⟩
  clear kd1
  replace Bx := Bx.ext g1
  replace By := By.ext g1
  replace Bz := Bz.ext g1
  replace E0 := E0.trans g1
  clear g1
  clear hx0 hx1 hy0 hy1 hz0 hz1
  have hx0 := Bx.cell 0 _ rfl
  have hx1 := Bx.cell 1 _ rfl
  have hy0 := By.cell 0 _ rfl
  have hy1 := By.cell 1 _ rfl
  have hz0 := Bz.cell 0 _ rfl
  have hz1 := Bz.cell 1 _ rfl
  go_wp2_with fail
  refine (awake_any _).mono ?_
  rintro e9 w9 ⟨rfl, g9⟩
  go_wp2_with fail
  go_ret
  exact ⟨rfl, E0.trans g9⟩
set_option maxHeartbeats 2000000 in
theorem least_b2 (a b c d e f : Int) (h1 : Ivl a b) (h2 : ¬ Ivl c d) (w : World) : Calls Try.prog 9 #[.agg #[.int .i64 a, .int .i64 b], .agg #[.int .i64 c, .int .i64 d], .agg #[.int .i64 e, .int .i64 f]] w fun x w' => x = .returned (.bool true) ∧ Ext w w' := by
  have Bx : Blk (((w.alloc (.cells #[.int .i64 a, .int .i64 b] 23)).alloc (.cells #[.int .i64 c, .int .i64 d] 23)).alloc (.cells #[.int .i64 e, .int .i64 f] 23)) (w.heap.size) 23 [.int .i64 a, .int .i64 b] := by
    have := Blk.new (w) [.int .i64 a, .int .i64 b] 23
    exact ((this).alloc _).alloc _
  have By : Blk (((w.alloc (.cells #[.int .i64 a, .int .i64 b] 23)).alloc (.cells #[.int .i64 c, .int .i64 d] 23)).alloc (.cells #[.int .i64 e, .int .i64 f] 23)) (w.heap.size + 1) 23 [.int .i64 c, .int .i64 d] := by
    have := Blk.new (w.alloc (.cells #[.int .i64 a, .int .i64 b] 23)) [.int .i64 c, .int .i64 d] 23
    rw [World.size_alloc] at this
    exact (this).alloc _
  have Bz : Blk (((w.alloc (.cells #[.int .i64 a, .int .i64 b] 23)).alloc (.cells #[.int .i64 c, .int .i64 d] 23)).alloc (.cells #[.int .i64 e, .int .i64 f] 23)) (w.heap.size + 1 + 1) 23 [.int .i64 e, .int .i64 f] := by
    have := Blk.new ((w.alloc (.cells #[.int .i64 a, .int .i64 b] 23)).alloc (.cells #[.int .i64 c, .int .i64 d] 23)) [.int .i64 e, .int .i64 f] 23
    rw [World.size_alloc, World.size_alloc] at this
    exact this
  have E0 : Ext w (((w.alloc (.cells #[.int .i64 a, .int .i64 b] 23)).alloc (.cells #[.int .i64 c, .int .i64 d] 23)).alloc (.cells #[.int .i64 e, .int .i64 f] 23)) := (((Ext.refl w).alloc _).alloc _).alloc _
  go_enter Try.func9, Try.ntmps9
  go_upto_region 1 with fail
  obtain ⟨V0, hV⟩ : ∃ V, ((w.alloc (.cells #[.int .i64 a, .int .i64 b] 23)).alloc (.cells #[.int .i64 c, .int .i64 d] 23)).alloc (.cells #[.int .i64 e, .int .i64 f] 23) = V := ⟨_, rfl⟩
  rw [hV] at Bx By Bz E0 ⊢
  clear hV
  have hx0 := Bx.cell 0 _ rfl
  have hx1 := Bx.cell 1 _ rfl
  have hy0 := By.cell 0 _ rfl
  have hy1 := By.cell 1 _ rfl
  have hz0 := Bz.cell 0 _ rfl
  have hz1 := Bz.cell 1 _ rfl
  go_wp2_with fail
  refine (check_yes h1 _).mono ?_
  rintro e1 w1 ⟨rfl, g1⟩
  replace Bx := Bx.ext g1
  replace By := By.ext g1
  replace Bz := Bz.ext g1
  replace E0 := E0.trans g1
  clear g1
  clear hx0 hx1 hy0 hy1 hz0 hz1
  have hx0 := Bx.cell 0 _ rfl
  have hx1 := Bx.cell 1 _ rfl
  have hy0 := By.cell 0 _ rfl
  have hy1 := By.cell 1 _ rfl
  have hz0 := Bz.cell 0 _ rfl
  have hz1 := Bz.cell 1 _ rfl
  go_wp2_with fail
  refine (check_no h2 _).mono ?_
  rintro e2 w2 ⟨k2, kb2, kc2, kd2, rfl, g2⟩
  clear kd2
  replace Bx := Bx.ext g2
  replace By := By.ext g2
  replace Bz := Bz.ext g2
  replace E0 := E0.trans g2
  clear g2
  clear hx0 hx1 hy0 hy1 hz0 hz1
  have hx0 := Bx.cell 0 _ rfl
  have hx1 := Bx.cell 1 _ rfl
  have hy0 := By.cell 0 _ rfl
  have hy1 := By.cell 1 _ rfl
  have hz0 := Bz.cell 0 _ rfl
  have hz1 := Bz.cell 1 _ rfl
  go_wp2_with fail
  refine (awake_any _).mono ?_
  rintro e9 w9 ⟨rfl, g9⟩
  go_wp2_with fail
  go_ret
  exact ⟨rfl, E0.trans g9⟩
set_option maxHeartbeats 2000000 in
theorem least_b3 (a b c d e f : Int) (h1 : Ivl a b) (h2 : Ivl c d) (h3 : ¬ Ivl e f) (w : World) : Calls Try.prog 9 #[.agg #[.int .i64 a, .int .i64 b], .agg #[.int .i64 c, .int .i64 d], .agg #[.int .i64 e, .int .i64 f]] w fun x w' => x = .returned (.bool true) ∧ Ext w w' := by
  have Bx : Blk (((w.alloc (.cells #[.int .i64 a, .int .i64 b] 23)).alloc (.cells #[.int .i64 c, .int .i64 d] 23)).alloc (.cells #[.int .i64 e, .int .i64 f] 23)) (w.heap.size) 23 [.int .i64 a, .int .i64 b] := by
    have := Blk.new (w) [.int .i64 a, .int .i64 b] 23
    exact ((this).alloc _).alloc _
  have By : Blk (((w.alloc (.cells #[.int .i64 a, .int .i64 b] 23)).alloc (.cells #[.int .i64 c, .int .i64 d] 23)).alloc (.cells #[.int .i64 e, .int .i64 f] 23)) (w.heap.size + 1) 23 [.int .i64 c, .int .i64 d] := by
    have := Blk.new (w.alloc (.cells #[.int .i64 a, .int .i64 b] 23)) [.int .i64 c, .int .i64 d] 23
    rw [World.size_alloc] at this
    exact (this).alloc _
  have Bz : Blk (((w.alloc (.cells #[.int .i64 a, .int .i64 b] 23)).alloc (.cells #[.int .i64 c, .int .i64 d] 23)).alloc (.cells #[.int .i64 e, .int .i64 f] 23)) (w.heap.size + 1 + 1) 23 [.int .i64 e, .int .i64 f] := by
    have := Blk.new ((w.alloc (.cells #[.int .i64 a, .int .i64 b] 23)).alloc (.cells #[.int .i64 c, .int .i64 d] 23)) [.int .i64 e, .int .i64 f] 23
    rw [World.size_alloc, World.size_alloc] at this
    exact this
  have E0 : Ext w (((w.alloc (.cells #[.int .i64 a, .int .i64 b] 23)).alloc (.cells #[.int .i64 c, .int .i64 d] 23)).alloc (.cells #[.int .i64 e, .int .i64 f] 23)) := (((Ext.refl w).alloc _).alloc _).alloc _
  go_enter Try.func9, Try.ntmps9
  go_upto_region 1 with fail
  obtain ⟨V0, hV⟩ : ∃ V, ((w.alloc (.cells #[.int .i64 a, .int .i64 b] 23)).alloc (.cells #[.int .i64 c, .int .i64 d] 23)).alloc (.cells #[.int .i64 e, .int .i64 f] 23) = V := ⟨_, rfl⟩
  rw [hV] at Bx By Bz E0 ⊢
  clear hV
  have hx0 := Bx.cell 0 _ rfl
  have hx1 := Bx.cell 1 _ rfl
  have hy0 := By.cell 0 _ rfl
  have hy1 := By.cell 1 _ rfl
  have hz0 := Bz.cell 0 _ rfl
  have hz1 := Bz.cell 1 _ rfl
  go_wp2_with fail
  refine (check_yes h1 _).mono ?_
  rintro e1 w1 ⟨rfl, g1⟩
  replace Bx := Bx.ext g1
  replace By := By.ext g1
  replace Bz := Bz.ext g1
  replace E0 := E0.trans g1
  clear g1
  clear hx0 hx1 hy0 hy1 hz0 hz1
  have hx0 := Bx.cell 0 _ rfl
  have hx1 := Bx.cell 1 _ rfl
  have hy0 := By.cell 0 _ rfl
  have hy1 := By.cell 1 _ rfl
  have hz0 := Bz.cell 0 _ rfl
  have hz1 := Bz.cell 1 _ rfl
  go_wp2_with fail
  refine (check_yes h2 _).mono ?_
  rintro e2 w2 ⟨rfl, g2⟩
  replace Bx := Bx.ext g2
  replace By := By.ext g2
  replace Bz := Bz.ext g2
  replace E0 := E0.trans g2
  clear g2
  clear hx0 hx1 hy0 hy1 hz0 hz1
  have hx0 := Bx.cell 0 _ rfl
  have hx1 := Bx.cell 1 _ rfl
  have hy0 := By.cell 0 _ rfl
  have hy1 := By.cell 1 _ rfl
  have hz0 := Bz.cell 0 _ rfl
  have hz1 := Bz.cell 1 _ rfl
  go_wp2_with fail
  refine (check_no h3 _).mono ?_
  rintro e3 w3 ⟨k3, kb3, kc3, kd3, rfl, g3⟩
  clear kd3
  replace Bx := Bx.ext g3
  replace By := By.ext g3
  replace Bz := Bz.ext g3
  replace E0 := E0.trans g3
  clear g3
  clear hx0 hx1 hy0 hy1 hz0 hz1
  have hx0 := Bx.cell 0 _ rfl
  have hx1 := Bx.cell 1 _ rfl
  have hy0 := By.cell 0 _ rfl
  have hy1 := By.cell 1 _ rfl
  have hz0 := Bz.cell 0 _ rfl
  have hz1 := Bz.cell 1 _ rfl
  go_wp2_with fail
  refine (awake_any _).mono ?_
  rintro e9 w9 ⟨rfl, g9⟩
  go_wp2_with fail
  go_ret
  exact ⟨rfl, E0.trans g9⟩
set_option maxHeartbeats 4000000 in
theorem least_good (a b c d e f : Int) (h1 : Ivl a b) (h2 : Ivl c d) (h3 : Ivl e f) (w : World) : Calls Try.prog 9 #[.agg #[.int .i64 a, .int .i64 b], .agg #[.int .i64 c, .int .i64 d], .agg #[.int .i64 e, .int .i64 f]] w fun x w' => x = .returned (.bool true) ∧ Ext w w' := by
  obtain ⟨jl, jh, kl, kh, ml, mh, hji, q1, q2, q3, q4, q5, q6, q7, q8, q9, q10, t1, t2, t3⟩ := least_law h1 h2 h3
  replace q1 := hidden q1
  replace q2 := hidden q2
  replace q3 := hidden q3
  replace q4 := hidden q4
  replace q5 := hidden q5
  replace q6 := hidden q6
  replace q7 := hidden q7
  replace q8 := hidden q8
  replace q9 := hidden q9
  replace q10 := hidden q10
  replace t1 := hidden t1
  replace t2 := hidden t2
  replace t3 := hidden t3
  obtain ⟨P, hP⟩ : ∃ P, witB a b e f = P := ⟨_, rfl⟩
  obtain ⟨Q, hQ⟩ : ∃ Q, witB c d e f = Q := ⟨_, rfl⟩
  replace hP := hidden hP
  replace hQ := hidden hQ
  have Bx : Blk (((w.alloc (.cells #[.int .i64 a, .int .i64 b] 23)).alloc (.cells #[.int .i64 c, .int .i64 d] 23)).alloc (.cells #[.int .i64 e, .int .i64 f] 23)) (w.heap.size) 23 [.int .i64 a, .int .i64 b] := by
    have := Blk.new (w) [.int .i64 a, .int .i64 b] 23
    exact ((this).alloc _).alloc _
  have By : Blk (((w.alloc (.cells #[.int .i64 a, .int .i64 b] 23)).alloc (.cells #[.int .i64 c, .int .i64 d] 23)).alloc (.cells #[.int .i64 e, .int .i64 f] 23)) (w.heap.size + 1) 23 [.int .i64 c, .int .i64 d] := by
    have := Blk.new (w.alloc (.cells #[.int .i64 a, .int .i64 b] 23)) [.int .i64 c, .int .i64 d] 23
    rw [World.size_alloc] at this
    exact (this).alloc _
  have Bz : Blk (((w.alloc (.cells #[.int .i64 a, .int .i64 b] 23)).alloc (.cells #[.int .i64 c, .int .i64 d] 23)).alloc (.cells #[.int .i64 e, .int .i64 f] 23)) (w.heap.size + 1 + 1) 23 [.int .i64 e, .int .i64 f] := by
    have := Blk.new ((w.alloc (.cells #[.int .i64 a, .int .i64 b] 23)).alloc (.cells #[.int .i64 c, .int .i64 d] 23)) [.int .i64 e, .int .i64 f] 23
    rw [World.size_alloc, World.size_alloc] at this
    exact this
  have E0 : Ext w (((w.alloc (.cells #[.int .i64 a, .int .i64 b] 23)).alloc (.cells #[.int .i64 c, .int .i64 d] 23)).alloc (.cells #[.int .i64 e, .int .i64 f] 23)) := (((Ext.refl w).alloc _).alloc _).alloc _
  go_enter Try.func9, Try.ntmps9
  go_upto_region 1 with fail
  obtain ⟨V0, hV⟩ : ∃ V, ((w.alloc (.cells #[.int .i64 a, .int .i64 b] 23)).alloc (.cells #[.int .i64 c, .int .i64 d] 23)).alloc (.cells #[.int .i64 e, .int .i64 f] 23) = V := ⟨_, rfl⟩
  rw [hV] at Bx By Bz E0 ⊢
  clear hV
  have hx0 := Bx.cell 0 _ rfl
  have hx1 := Bx.cell 1 _ rfl
  have hy0 := By.cell 0 _ rfl
  have hy1 := By.cell 1 _ rfl
  have hz0 := Bz.cell 0 _ rfl
  have hz1 := Bz.cell 1 _ rfl
  go_wp2_with fail
  refine (check_yes h1 _).mono ?_
  rintro e1 w1 ⟨rfl, g1⟩
  replace Bx := Bx.ext g1
  replace By := By.ext g1
  replace Bz := Bz.ext g1
  replace E0 := E0.trans g1
  clear g1
  clear hx0 hx1 hy0 hy1 hz0 hz1
  have hx0 := Bx.cell 0 _ rfl
  have hx1 := Bx.cell 1 _ rfl
  have hy0 := By.cell 0 _ rfl
  have hy1 := By.cell 1 _ rfl
  have hz0 := Bz.cell 0 _ rfl
  have hz1 := Bz.cell 1 _ rfl
  go_wp2_with fail
  refine (check_yes h2 _).mono ?_
  rintro e2 w2 ⟨rfl, g2⟩
  replace Bx := Bx.ext g2
  replace By := By.ext g2
  replace Bz := Bz.ext g2
  replace E0 := E0.trans g2
  clear g2
  clear hx0 hx1 hy0 hy1 hz0 hz1
  have hx0 := Bx.cell 0 _ rfl
  have hx1 := Bx.cell 1 _ rfl
  have hy0 := By.cell 0 _ rfl
  have hy1 := By.cell 1 _ rfl
  have hz0 := Bz.cell 0 _ rfl
  have hz1 := Bz.cell 1 _ rfl
  go_wp2_with fail
  refine (check_yes h3 _).mono ?_
  rintro e3 w3 ⟨rfl, g3⟩
  replace Bx := Bx.ext g3
  replace By := By.ext g3
  replace Bz := Bz.ext g3
  replace E0 := E0.trans g3
  clear g3
  clear hx0 hx1 hy0 hy1 hz0 hz1
  have hx0 := Bx.cell 0 _ rfl
  have hx1 := Bx.cell 1 _ rfl
  have hy0 := By.cell 0 _ rfl
  have hy1 := By.cell 1 _ rfl
  have hz0 := Bz.cell 0 _ rfl
  have hz1 := Bz.cell 1 _ rfl
  go_wp2_with fail
  refine (iv_at _ _ _ _ _ _ _ q1.out q2.out (join_any a b c d _)).mono ?_
  rintro e4 w4 ⟨rfl, g4⟩
  have Bj := Blk.new w4 [.int .i64 jl, .int .i64 jh] 23
  replace Bx := (Bx.ext g4).alloc (.cells #[.int .i64 jl, .int .i64 jh] 23)
  replace By := (By.ext g4).alloc (.cells #[.int .i64 jl, .int .i64 jh] 23)
  replace Bz := (Bz.ext g4).alloc (.cells #[.int .i64 jl, .int .i64 jh] 23)
  replace E0 := (E0.trans g4).alloc (.cells #[.int .i64 jl, .int .i64 jh] 23)
  clear g4
  clear hx0 hx1 hy0 hy1 hz0 hz1
  obtain ⟨V4, hV4⟩ : ∃ V, w4.alloc (.cells #[.int .i64 jl, .int .i64 jh] 23) = V := ⟨_, rfl⟩
  obtain ⟨p, hp⟩ : ∃ p, w4.heap.size = p := ⟨_, rfl⟩
  rw [hV4] at Bx By Bz Bj E0
  rw [hp] at Bj
  have hx0 := Bx.cell 0 _ rfl
  have hx1 := Bx.cell 1 _ rfl
  have hy0 := By.cell 0 _ rfl
  have hy1 := By.cell 1 _ rfl
  have hz0 := Bz.cell 0 _ rfl
  have hz1 := Bz.cell 1 _ rfl
  have hj0 := Bj.cell 0 _ rfl
  have hj1 := Bj.cell 1 _ rfl
  go_upto_region 4 with fail
  try rw [hV4]
  try rw [hp]
  clear hV4 hp
  go_region_held3 (fun w' => w'.cell? ⟨w.heap.size, 0, none⟩ = some (.int .i64 a) ∧ w'.cell? ⟨w.heap.size, 1, none⟩ = some (.int .i64 b) ∧ w'.cell? ⟨w.heap.size + 1, 0, none⟩ = some (.int .i64 c) ∧ w'.cell? ⟨w.heap.size + 1, 1, none⟩ = some (.int .i64 d) ∧ w'.cell? ⟨w.heap.size + 1 + 1, 0, none⟩ = some (.int .i64 e) ∧ w'.cell? ⟨w.heap.size + 1 + 1, 1, none⟩ = some (.int .i64 f) ∧ w'.cell? ⟨p, 0, none⟩ = some (.int .i64 jl) ∧ w'.cell? ⟨p, 1, none⟩ = some (.int .i64 jh)) (go_keep)
    (first | (go_at_call 27; refine (iv_at _ _ _ _ _ _ _ (by first | exact q1.out | exact q3.out | exact q5.out | exact q7.out | exact q9.out) (by first | exact q2.out | exact q4.out | exact q6.out | exact q8.out | exact q10.out) (join_any _ _ _ _ _)).mono ?_; rintro e w5 ⟨rfl, g5⟩; have gX : Ext V4 w5 := (by first | exact Ext.trans gX g5 | exact (Ext.trans gX g5.past) | exact g5.past_drew | exact g5.past_drew.past | exact g5); have j0 : w5.cell? ⟨w.heap.size, 0, none⟩ = some (.int .i64 a) := gX.cell hx0; have j1 : w5.cell? ⟨w.heap.size, 1, none⟩ = some (.int .i64 b) := gX.cell hx1; have j2 : w5.cell? ⟨w.heap.size + 1, 0, none⟩ = some (.int .i64 c) := gX.cell hy0; have j3 : w5.cell? ⟨w.heap.size + 1, 1, none⟩ = some (.int .i64 d) := gX.cell hy1; have j4 : w5.cell? ⟨w.heap.size + 1 + 1, 0, none⟩ = some (.int .i64 e) := gX.cell hz0; have j5 : w5.cell? ⟨w.heap.size + 1 + 1, 1, none⟩ = some (.int .i64 f) := gX.cell hz1; have j6 : w5.cell? ⟨p, 0, none⟩ = some (.int .i64 jl) := gX.cell hj0; have j7 : w5.cell? ⟨p, 1, none⟩ = some (.int .i64 jh) := gX.cell hj1) | (go_at_call 15; refine (bool_at _ _ _ _ _ (by first | exact t1.out | exact t2.out) (within_any _ _ _ _ _)).mono ?_; rintro e w5 ⟨rfl, g5⟩; have gX : Ext V4 w5 := (by first | exact Ext.trans gX g5 | exact (Ext.trans gX g5.past) | exact g5.past_drew | exact g5.past_drew.past | exact g5); have j0 : w5.cell? ⟨w.heap.size, 0, none⟩ = some (.int .i64 a) := gX.cell hx0; have j1 : w5.cell? ⟨w.heap.size, 1, none⟩ = some (.int .i64 b) := gX.cell hx1; have j2 : w5.cell? ⟨w.heap.size + 1, 0, none⟩ = some (.int .i64 c) := gX.cell hy0; have j3 : w5.cell? ⟨w.heap.size + 1, 1, none⟩ = some (.int .i64 d) := gX.cell hy1; have j4 : w5.cell? ⟨w.heap.size + 1 + 1, 0, none⟩ = some (.int .i64 e) := gX.cell hz0; have j5 : w5.cell? ⟨w.heap.size + 1 + 1, 1, none⟩ = some (.int .i64 f) := gX.cell hz1; have j6 : w5.cell? ⟨p, 0, none⟩ = some (.int .i64 jl) := gX.cell hj0; have j7 : w5.cell? ⟨p, 1, none⟩ = some (.int .i64 jh) := gX.cell hj1))
  have Bx5 := Bx.ext gX
  have By5 := By.ext gX
  have Bz5 := Bz.ext gX
  have Bj5 := Bj.ext gX
  have E5 := E0.trans gX
  clear Bx By Bz Bj E0
  go_wp2_with fail
  refine (awake_any _).mono ?_
  rintro e6 w6 ⟨rfl, g6⟩
  replace Bx5 := Bx5.ext g6
  replace By5 := By5.ext g6
  replace Bz5 := Bz5.ext g6
  replace Bj5 := Bj5.ext g6
  replace E5 := E5.trans g6
  have hx0 := Bx5.cell 0 _ rfl
  have hx1 := Bx5.cell 1 _ rfl
  have hy0 := By5.cell 0 _ rfl
  have hy1 := By5.cell 1 _ rfl
  have hz0 := Bz5.cell 0 _ rfl
  have hz1 := Bz5.cell 1 _ rfl
  have hj0 := Bj5.cell 0 _ rfl
  have hj1 := Bj5.cell 1 _ rfl
  cases P
  · go_wp2_with fail
    refine (bool_at _ _ _ _ _ (hP.out) (within_any _ _ _ _ _)).mono ?_
    rintro e7 w7 ⟨rfl, g7⟩
    replace Bx5 := Bx5.ext g7
    replace By5 := By5.ext g7
    replace Bz5 := Bz5.ext g7
    replace Bj5 := Bj5.ext g7
    replace E5 := E5.trans g7
    have hx0 := Bx5.cell 0 _ rfl
    have hx1 := Bx5.cell 1 _ rfl
    have hy0 := By5.cell 0 _ rfl
    have hy1 := By5.cell 1 _ rfl
    have hz0 := Bz5.cell 0 _ rfl
    have hz1 := Bz5.cell 1 _ rfl
    have hj0 := Bj5.cell 0 _ rfl
    have hj1 := Bj5.cell 1 _ rfl
    go_wp2_with fail
    go_ret
    exact ⟨rfl, E5⟩
  · cases Q
    · go_wp2_with fail
      refine (bool_at _ _ _ _ _ (hP.out) (within_any _ _ _ _ _)).mono ?_
      rintro e7 w7 ⟨rfl, g7⟩
      replace Bx5 := Bx5.ext g7
      replace By5 := By5.ext g7
      replace Bz5 := Bz5.ext g7
      replace Bj5 := Bj5.ext g7
      replace E5 := E5.trans g7
      have hx0 := Bx5.cell 0 _ rfl
      have hx1 := Bx5.cell 1 _ rfl
      have hy0 := By5.cell 0 _ rfl
      have hy1 := By5.cell 1 _ rfl
      have hz0 := Bz5.cell 0 _ rfl
      have hz1 := Bz5.cell 1 _ rfl
      have hj0 := Bj5.cell 0 _ rfl
      have hj1 := Bj5.cell 1 _ rfl
      go_wp2_with fail
      refine (bool_at _ _ _ _ _ (hQ.out) (within_any _ _ _ _ _)).mono ?_
      rintro e8 w8 ⟨rfl, g8⟩
      replace Bx5 := Bx5.ext g8
      replace By5 := By5.ext g8
      replace Bz5 := Bz5.ext g8
      replace Bj5 := Bj5.ext g8
      replace E5 := E5.trans g8
      have hx0 := Bx5.cell 0 _ rfl
      have hx1 := Bx5.cell 1 _ rfl
      have hy0 := By5.cell 0 _ rfl
      have hy1 := By5.cell 1 _ rfl
      have hz0 := Bz5.cell 0 _ rfl
      have hz1 := Bz5.cell 1 _ rfl
      have hj0 := Bj5.cell 0 _ rfl
      have hj1 := Bj5.cell 1 _ rfl
      go_wp2_with fail
      go_ret
      exact ⟨rfl, E5⟩
    · have t4 := hidden (t3.out hP.out hQ.out)
      go_wp2_with fail
      refine (bool_at _ _ _ _ _ (hP.out) (within_any _ _ _ _ _)).mono ?_
      rintro e7 w7 ⟨rfl, g7⟩
      replace Bx5 := Bx5.ext g7
      replace By5 := By5.ext g7
      replace Bz5 := Bz5.ext g7
      replace Bj5 := Bj5.ext g7
      replace E5 := E5.trans g7
      have hx0 := Bx5.cell 0 _ rfl
      have hx1 := Bx5.cell 1 _ rfl
      have hy0 := By5.cell 0 _ rfl
      have hy1 := By5.cell 1 _ rfl
      have hz0 := Bz5.cell 0 _ rfl
      have hz1 := Bz5.cell 1 _ rfl
      have hj0 := Bj5.cell 0 _ rfl
      have hj1 := Bj5.cell 1 _ rfl
      go_wp2_with fail
      refine (bool_at _ _ _ _ _ (hQ.out) (within_any _ _ _ _ _)).mono ?_
      rintro e8 w8 ⟨rfl, g8⟩
      replace Bx5 := Bx5.ext g8
      replace By5 := By5.ext g8
      replace Bz5 := Bz5.ext g8
      replace Bj5 := Bj5.ext g8
      replace E5 := E5.trans g8
      have hx0 := Bx5.cell 0 _ rfl
      have hx1 := Bx5.cell 1 _ rfl
      have hy0 := By5.cell 0 _ rfl
      have hy1 := By5.cell 1 _ rfl
      have hz0 := Bz5.cell 0 _ rfl
      have hz1 := Bz5.cell 1 _ rfl
      have hj0 := Bj5.cell 0 _ rfl
      have hj1 := Bj5.cell 1 _ rfl
      go_wp2_with fail
      refine (bool_at _ _ _ _ _ (t4.out) (within_any _ _ _ _ _)).mono ?_
      rintro e9 w9 ⟨rfl, g9⟩
      replace Bx5 := Bx5.ext g9
      replace By5 := By5.ext g9
      replace Bz5 := Bz5.ext g9
      replace Bj5 := Bj5.ext g9
      replace E5 := E5.trans g9
      have hx0 := Bx5.cell 0 _ rfl
      have hx1 := Bx5.cell 1 _ rfl
      have hy0 := By5.cell 0 _ rfl
      have hy1 := By5.cell 1 _ rfl
      have hz0 := Bz5.cell 0 _ rfl
      have hz1 := Bz5.cell 1 _ rfl
      have hj0 := Bj5.cell 0 _ rfl
      have hj1 := Bj5.cell 1 _ rfl
      go_wp2_with fail
      go_ret
      exact ⟨rfl, E5⟩
theorem IntervalLeast_any (a b c d e f : Int) (ba0 : -9223372036854775808 ≤ a) (ba1 : a ≤ 9223372036854775807) (bb0 : -9223372036854775808 ≤ b) (bb1 : b ≤ 9223372036854775807) (bc0 : -9223372036854775808 ≤ c) (bc1 : c ≤ 9223372036854775807) (bd0 : -9223372036854775808 ≤ d) (bd1 : d ≤ 9223372036854775807) (be0 : -9223372036854775808 ≤ e) (be1 : e ≤ 9223372036854775807) (bf0 : -9223372036854775808 ≤ f) (bf1 : f ≤ 9223372036854775807) (w : World) : Calls Try.prog 9 #[.agg #[.int .i64 a, .int .i64 b], .agg #[.int .i64 c, .int .i64 d], .agg #[.int .i64 e, .int .i64 f]] w fun x w' => x = .returned (.bool true) ∧ Ext w w' := by
  by_cases h1 : Ivl a b
  · by_cases h2 : Ivl c d
    · by_cases h3 : Ivl e f
      · exact least_good a b c d e f h1 h2 h3 w
      · exact least_b3 a b c d e f h1 h2 h3 w
    · exact least_b2 a b c d e f h1 h2 w
  · exact least_b1 a b c d e f h1 w
end Go.Proofs.Ytbpnagamcohlnaa
